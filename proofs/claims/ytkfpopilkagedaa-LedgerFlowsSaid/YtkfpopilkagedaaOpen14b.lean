/- Arguments laid open (printed by a program of ours). -/
import Derived.Test.YtkfpopilkagedaaOpenA
import Derived.Test.YtkfpopilkagedaaStampI
set_option linter.unusedSimpArgs false
set_option linter.unusedVariables false
namespace Go.Proofs.Ytkfpopilkagedaa
open Go.ChangeShapes Go.WideShapes Go.ChangeAt Go.RowKit Go.Joins
theorem tc_int64 {H : Type} {enc : TypeId × Value → H} {w : World} {base : Nat} {spare : Nat → Bool} {held : Bool} {n : Nat} {cs : List Value} {y : DataW H × List MemPlace} (h : DataW.trod enc Try.prog w base spare held n 2 cs = some y) : ∃ (z : Int), cs = [.int .i64 z] ∧ (Lit.int .i64 z).wf = true := by
  obtain ⟨z, e, _, hw⟩ := DataW.trod_int Try.underlying2 h
  exact ⟨z, e, hw⟩
set_option maxRecDepth 100000 in
theorem tc_Slint64 {H : Type} {enc : TypeId × Value → H} {w : World} {base : Nat} {spare : Nat → Bool} {held : Bool} {n : Nat} {cs : List Value} {y : DataW H × List MemPlace} (h : DataW.trod enc Try.prog w base spare held n 34 cs = some y) : ∃ (zA : Option Addr) (zC : Nat) (z : List Int), cs = [.slice zA z.length zC] ∧ SlOk w 1 zA zC (z.map (Value.int .i64)) ∧ z.length ≤ zC ∧ zC ≤ maxLen ∧ ∀ u_ ∈ z, (Lit.int .i64 u_).wf = true := by
  obtain ⟨A, c, xs, hcs, hs, hl, hm, hx⟩ := slice_open (E := Int) (size := 1) (ce := fun x => [.int .i64 x]) (ok := fun x => (Lit.int .i64 x).wf = true) Try.underlying34 (by kernel_rfl) (fun n cs y h => by obtain ⟨z, e, hw⟩ := tc_int64 h; exact ⟨z, e, hw⟩) (fun x => rfl) (by decide) h
  exact ⟨A, c, xs, hcs, by simpa only [flatMap_single] using hs, hl, hm, hx⟩
set_option maxRecDepth 100000 in
theorem open_i64s {H : Type} {enc : TypeId × Value → H} {w : World} {base : Nat} {spare : Nat → Bool} {held : Bool} {r : Reach} {b0 : Nat} {v : Value} {d : DataW H} {p : List MemPlace} (hv : Value.okWide Try.prog w r b0 34 v) (h : DataW.Trod enc Try.prog w base spare held 34 v d p) :
    ∃ (sA : Option Addr) (sC : Nat) (s : List Int), v = .slice sA s.length sC ∧ SlOk w 1 sA sC (s.map (Value.int .i64)) ∧ s.length ≤ sC ∧ sC ≤ maxLen ∧ ∀ u_ ∈ s, (Lit.int .i64 u_).wf = true := by
  obtain ⟨a, l, c, rfl⟩ := okWide_slice Try.underlying34 hv
  obtain ⟨fuel, hf⟩ := h
  obtain ⟨sA, sC, s, e, hw⟩ := tc_Slint64 hf
  refine ⟨sA, sC, s, ?_, hw⟩
  simpa [Value.cells] using e
end Go.Proofs.Ytkfpopilkagedaa
