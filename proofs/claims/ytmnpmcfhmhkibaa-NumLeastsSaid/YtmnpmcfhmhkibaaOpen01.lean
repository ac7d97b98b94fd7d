/- Arguments laid open (printed by a program of ours). -/
import Derived.Test.YtmnpmcfhmhkibaaOpenA
set_option linter.unusedSimpArgs false
set_option linter.unusedVariables false
namespace Go.Proofs.Ytmnpmcfhmhkibaa
open Go.ChangeShapes Go.WideShapes Go.ChangeAt Go.RowKit Go.Joins
theorem trod_float {P : Program} {H : Type} {enc : TypeId × Value → H} {w : World} {base : Nat} {spare : Nat → Bool} {held : Bool} {t : TypeId} {k : FloatKind} {n : Nat} {cs : List Value} {x : DataW H × List MemPlace} (ht : P.underlying t = some (.float k)) (h : DataW.trod enc P w base spare held n t cs = some x) : ∃ b, cs = [.float k b] ∧ x = (.lit (.float k b), []) ∧ (Lit.float k b).wf = true := by
  cases n with
  | zero => simp [DataW.trod] at h
  | succ n =>
    unfold DataW.trod at h
    rw [ht] at h
    split at h <;> simp_all
theorem tc_float64 {H : Type} {enc : TypeId × Value → H} {w : World} {base : Nat} {spare : Nat → Bool} {held : Bool} {n : Nat} {cs : List Value} {y : DataW H × List MemPlace} (h : DataW.trod enc Try.prog w base spare held n 22 cs = some y) : ∃ (z : Nat), cs = [.float .f64 z] ∧ (Lit.float .f64 z).wf = true := by
  obtain ⟨z, e, _, hw⟩ := trod_float Try.underlying22 h
  exact ⟨z, e, hw⟩
set_option maxRecDepth 100000 in
theorem tc_Slfloat64 {H : Type} {enc : TypeId × Value → H} {w : World} {base : Nat} {spare : Nat → Bool} {held : Bool} {n : Nat} {cs : List Value} {y : DataW H × List MemPlace} (h : DataW.trod enc Try.prog w base spare held n 40 cs = some y) : ∃ (zA : Option Addr) (zC : Nat) (z : List Nat), cs = [.slice zA z.length zC] ∧ SlOk w 1 zA zC (z.map (Value.float .f64)) ∧ z.length ≤ zC ∧ zC ≤ maxLen ∧ ∀ u_ ∈ z, (Lit.float .f64 u_).wf = true := by
  obtain ⟨A, c, xs, hcs, hs, hl, hm, hx⟩ := slice_open (E := Nat) (size := 1) (ce := fun x => [.float .f64 x]) (ok := fun x => (Lit.float .f64 x).wf = true) Try.underlying40 (by kernel_rfl) (fun n cs y h => by obtain ⟨z, e, hw⟩ := tc_float64 h; exact ⟨z, e, hw⟩) (fun x => rfl) (by decide) h
  exact ⟨A, c, xs, hcs, by simpa only [flatMap_single] using hs, hl, hm, hx⟩
set_option maxRecDepth 100000 in
theorem open_floats {H : Type} {enc : TypeId × Value → H} {w : World} {base : Nat} {spare : Nat → Bool} {held : Bool} {r : Reach} {b0 : Nat} {v : Value} {d : DataW H} {p : List MemPlace} (hv : Value.okWide Try.prog w r b0 40 v) (h : DataW.Trod enc Try.prog w base spare held 40 v d p) :
    ∃ (sA : Option Addr) (sC : Nat) (s : List Nat), v = .slice sA s.length sC ∧ SlOk w 1 sA sC (s.map (Value.float .f64)) ∧ s.length ≤ sC ∧ sC ≤ maxLen ∧ ∀ u_ ∈ s, (Lit.float .f64 u_).wf = true := by
  obtain ⟨a, l, c, rfl⟩ := okWide_slice Try.underlying40 hv
  obtain ⟨fuel, hf⟩ := h
  obtain ⟨sA, sC, s, e, hw⟩ := tc_Slfloat64 hf
  refine ⟨sA, sC, s, ?_, hw⟩
  simpa [Value.cells] using e
end Go.Proofs.Ytmnpmcfhmhkibaa
