/-
  No cell of these rows narrows 'for every input' (looked for: loops, veiled, ifaces, maps, wideKeys, modest, calm, conditions, laid).
  DERIVED. THE GIVEN ROWS OF THIS SEAT. 9 by the template 'for every input the law returns true; each argument reads behind the call as it read before'; 0 by the template 'total and deterministic' (their statements: YtnljmjibjjjelaaTotals.lean).
  GIVEN WITH THE SEED: the statements are not yours to turn. If you find one false, say at which input.
  Laid BY PROGRAM, IN A SANDBOX (cutbox-rows.mjs): the forced cells as the released guide's own fill.sh prints them over the translation f3a3ace7b4625fd5… (all of the seat's roots in one cut). By AI agents, Wed Nov 11 2026. No macro, syntax, notation, axiom, sorry.
-/
import Derived.Test.YtnljmjibjjjelaaChecked
import GoSem.Claim
import GoSem.ClaimJoined
import GoSem.ClaimMapViews
import Derived.JoinedTies
import Derived.KernelRfl
namespace Go.Proofs.Ytnljmjibjjjelaa
/- THE CELL 'sum', in the pinned program and in every row, IS THE sha256 OF THE DUMP (.gsa) THAT YtnljmjibjjjelaaProg.lean LOADS. Nothing in Lean hashes anything: it is a label: what it is worth is what the hold of that sum in a sandbox is worth. -/
noncomputable def Try.pinned : Pinned := { name := "ytnljmjibjjjelaa", sum := "f3a3ace7b4625fd5caf88af6ce2581e8aefbc3fa889fbd3a668b565287f4edbd", checked := Try.checked }
namespace Rows
def none {H : Type} : Left H := { results := [], args := [] }

/-- 'moietylaw05.SpanWidens': WHATEVER THE INPUT: true; the input reads as it did. -/
def spanWidensSpec : ChangeSpec := { name := "spanWidens", fn := fun _ => fun
  | [d1, d2, d3] => { results := [.lit (.bool true)], args := [d1, d2, d3] }
  | _ => none }
def spanWidensRow : OpenClaim := { program := "ytnljmjibjjjelaa", sum := "f3a3ace7b4625fd5caf88af6ce2581e8aefbc3fa889fbd3a668b565287f4edbd", func := "moiety/moietylaw05.SpanWidens", spec := "spanWidens", inPlace := ["math.Float64bits", "math.Float64frombits"], apart := false }
def SpanWidensSaid : Prop := spanWidensRow.holds Try.pinned (OpenSpec.ofChange spanWidensSpec)

/-- ITS FALSE NEIGHBOUR: 'it returns false'. Refute it at one input. -/
def spanWidensWrong : ChangeSpec := { name := "spanWidens", fn := fun _ => fun
  | [d1, d2, d3] => { results := [.lit (.bool false)], args := [d1, d2, d3] }
  | _ => none }
def SpanWidensWrongFalsely : Prop := spanWidensRow.holds Try.pinned (OpenSpec.ofChange spanWidensWrong)

/-- 'moietylaw05.SpanDrifts': WHATEVER THE INPUT: true; the input reads as it did. -/
def spanDriftsSpec : ChangeSpec := { name := "spanDrifts", fn := fun _ => fun
  | [d1, d2, d3] => { results := [.lit (.bool true)], args := [d1, d2, d3] }
  | _ => none }
def spanDriftsRow : OpenClaim := { program := "ytnljmjibjjjelaa", sum := "f3a3ace7b4625fd5caf88af6ce2581e8aefbc3fa889fbd3a668b565287f4edbd", func := "moiety/moietylaw05.SpanDrifts", spec := "spanDrifts", inPlace := ["math.Float64bits", "math.Float64frombits"], apart := false }
def SpanDriftsSaid : Prop := spanDriftsRow.holds Try.pinned (OpenSpec.ofChange spanDriftsSpec)

/-- ITS FALSE NEIGHBOUR: 'it returns false'. Refute it at one input. -/
def spanDriftsWrong : ChangeSpec := { name := "spanDrifts", fn := fun _ => fun
  | [d1, d2, d3] => { results := [.lit (.bool false)], args := [d1, d2, d3] }
  | _ => none }
def SpanDriftsWrongFalsely : Prop := spanDriftsRow.holds Try.pinned (OpenSpec.ofChange spanDriftsWrong)

/-- 'moietylaw05.SpanRelates': WHATEVER THE INPUT: true; the input reads as it did. -/
def spanRelatesSpec : ChangeSpec := { name := "spanRelates", fn := fun _ => fun
  | [d1, d2, d3] => { results := [.lit (.bool true)], args := [d1, d2, d3] }
  | _ => none }
def spanRelatesRow : OpenClaim := { program := "ytnljmjibjjjelaa", sum := "f3a3ace7b4625fd5caf88af6ce2581e8aefbc3fa889fbd3a668b565287f4edbd", func := "moiety/moietylaw05.SpanRelates", spec := "spanRelates", inPlace := ["math.Float64bits", "math.Float64frombits"], apart := false }
def SpanRelatesSaid : Prop := spanRelatesRow.holds Try.pinned (OpenSpec.ofChange spanRelatesSpec)

/-- ITS FALSE NEIGHBOUR: 'it returns false'. Refute it at one input. -/
def spanRelatesWrong : ChangeSpec := { name := "spanRelates", fn := fun _ => fun
  | [d1, d2, d3] => { results := [.lit (.bool false)], args := [d1, d2, d3] }
  | _ => none }
def SpanRelatesWrongFalsely : Prop := spanRelatesRow.holds Try.pinned (OpenSpec.ofChange spanRelatesWrong)

/-- 'moietylaw05.SpanJoins': WHATEVER THE INPUT: true; the input reads as it did. -/
def spanJoinsSpec : ChangeSpec := { name := "spanJoins", fn := fun _ => fun
  | [d] => { results := [.lit (.bool true)], args := [d] }
  | _ => none }
def spanJoinsRow : OpenClaim := { program := "ytnljmjibjjjelaa", sum := "f3a3ace7b4625fd5caf88af6ce2581e8aefbc3fa889fbd3a668b565287f4edbd", func := "moiety/moietylaw05.SpanJoins", spec := "spanJoins", inPlace := ["math.Float64bits", "math.Float64frombits"], apart := false }
def SpanJoinsSaid : Prop := spanJoinsRow.holds Try.pinned (OpenSpec.ofChange spanJoinsSpec)

/-- ITS FALSE NEIGHBOUR: 'it returns false'. Refute it at one input. -/
def spanJoinsWrong : ChangeSpec := { name := "spanJoins", fn := fun _ => fun
  | [d] => { results := [.lit (.bool false)], args := [d] }
  | _ => none }
def SpanJoinsWrongFalsely : Prop := spanJoinsRow.holds Try.pinned (OpenSpec.ofChange spanJoinsWrong)

/-- 'moietylaw05.SpanHolds': WHATEVER THE INPUT: true; the input reads as it did. -/
def spanHoldsSpec : ChangeSpec := { name := "spanHolds", fn := fun _ => fun
  | [d1, d2, d3] => { results := [.lit (.bool true)], args := [d1, d2, d3] }
  | _ => none }
def spanHoldsRow : OpenClaim := { program := "ytnljmjibjjjelaa", sum := "f3a3ace7b4625fd5caf88af6ce2581e8aefbc3fa889fbd3a668b565287f4edbd", func := "moiety/moietylaw05.SpanHolds", spec := "spanHolds", inPlace := ["math.Float64bits", "math.Float64frombits"], apart := false }
def SpanHoldsSaid : Prop := spanHoldsRow.holds Try.pinned (OpenSpec.ofChange spanHoldsSpec)

/-- ITS FALSE NEIGHBOUR: 'it returns false'. Refute it at one input. -/
def spanHoldsWrong : ChangeSpec := { name := "spanHolds", fn := fun _ => fun
  | [d1, d2, d3] => { results := [.lit (.bool false)], args := [d1, d2, d3] }
  | _ => none }
def SpanHoldsWrongFalsely : Prop := spanHoldsRow.holds Try.pinned (OpenSpec.ofChange spanHoldsWrong)

/-- 'moietylaw05.SpanMeets': WHATEVER THE INPUT: true; the input reads as it did. -/
def spanMeetsSpec : ChangeSpec := { name := "spanMeets", fn := fun _ => fun
  | [d1, d2, d3] => { results := [.lit (.bool true)], args := [d1, d2, d3] }
  | _ => none }
def spanMeetsRow : OpenClaim := { program := "ytnljmjibjjjelaa", sum := "f3a3ace7b4625fd5caf88af6ce2581e8aefbc3fa889fbd3a668b565287f4edbd", func := "moiety/moietylaw05.SpanMeets", spec := "spanMeets", inPlace := ["math.Float64bits", "math.Float64frombits"], apart := false }
def SpanMeetsSaid : Prop := spanMeetsRow.holds Try.pinned (OpenSpec.ofChange spanMeetsSpec)

/-- ITS FALSE NEIGHBOUR: 'it returns false'. Refute it at one input. -/
def spanMeetsWrong : ChangeSpec := { name := "spanMeets", fn := fun _ => fun
  | [d1, d2, d3] => { results := [.lit (.bool false)], args := [d1, d2, d3] }
  | _ => none }
def SpanMeetsWrongFalsely : Prop := spanMeetsRow.holds Try.pinned (OpenSpec.ofChange spanMeetsWrong)

/-- 'moietylaw05.SpanGoes': WHATEVER THE INPUT: true; the input reads as it did. -/
def spanGoesSpec : ChangeSpec := { name := "spanGoes", fn := fun _ => fun
  | [d1, d2, d3] => { results := [.lit (.bool true)], args := [d1, d2, d3] }
  | _ => none }
def spanGoesRow : OpenClaim := { program := "ytnljmjibjjjelaa", sum := "f3a3ace7b4625fd5caf88af6ce2581e8aefbc3fa889fbd3a668b565287f4edbd", func := "moiety/moietylaw05.SpanGoes", spec := "spanGoes", inPlace := ["math.Float64bits", "math.Float64frombits"], apart := false }
def SpanGoesSaid : Prop := spanGoesRow.holds Try.pinned (OpenSpec.ofChange spanGoesSpec)

/-- ITS FALSE NEIGHBOUR: 'it returns false'. Refute it at one input. -/
def spanGoesWrong : ChangeSpec := { name := "spanGoes", fn := fun _ => fun
  | [d1, d2, d3] => { results := [.lit (.bool false)], args := [d1, d2, d3] }
  | _ => none }
def SpanGoesWrongFalsely : Prop := spanGoesRow.holds Try.pinned (OpenSpec.ofChange spanGoesWrong)

/-- 'moietylaw05.SpanWider': WHATEVER THE INPUT: true; the input reads as it did. -/
def spanWiderSpec : ChangeSpec := { name := "spanWider", fn := fun _ => fun
  | [d1, d2] => { results := [.lit (.bool true)], args := [d1, d2] }
  | _ => none }
def spanWiderRow : OpenClaim := { program := "ytnljmjibjjjelaa", sum := "f3a3ace7b4625fd5caf88af6ce2581e8aefbc3fa889fbd3a668b565287f4edbd", func := "moiety/moietylaw05.SpanWider", spec := "spanWider", inPlace := ["math.Float64bits", "math.Float64frombits"], apart := false }
def SpanWiderSaid : Prop := spanWiderRow.holds Try.pinned (OpenSpec.ofChange spanWiderSpec)

/-- ITS FALSE NEIGHBOUR: 'it returns false'. Refute it at one input. -/
def spanWiderWrong : ChangeSpec := { name := "spanWider", fn := fun _ => fun
  | [d1, d2] => { results := [.lit (.bool false)], args := [d1, d2] }
  | _ => none }
def SpanWiderWrongFalsely : Prop := spanWiderRow.holds Try.pinned (OpenSpec.ofChange spanWiderWrong)

/-- 'moietylaw05.SpanLeast': WHATEVER THE INPUT: true; the input reads as it did. -/
def spanLeastSpec : ChangeSpec := { name := "spanLeast", fn := fun _ => fun
  | [d] => { results := [.lit (.bool true)], args := [d] }
  | _ => none }
def spanLeastRow : OpenClaim := { program := "ytnljmjibjjjelaa", sum := "f3a3ace7b4625fd5caf88af6ce2581e8aefbc3fa889fbd3a668b565287f4edbd", func := "moiety/moietylaw05.SpanLeast", spec := "spanLeast", inPlace := ["math.Float64bits", "math.Float64frombits"], apart := false }
def SpanLeastSaid : Prop := spanLeastRow.holds Try.pinned (OpenSpec.ofChange spanLeastSpec)

/-- ITS FALSE NEIGHBOUR: 'it returns false'. Refute it at one input. -/
def spanLeastWrong : ChangeSpec := { name := "spanLeast", fn := fun _ => fun
  | [d] => { results := [.lit (.bool false)], args := [d] }
  | _ => none }
def SpanLeastWrongFalsely : Prop := spanLeastRow.holds Try.pinned (OpenSpec.ofChange spanLeastWrong)

/- THE SECOND FORM. 'bulk': how many values and letters a reading holds, each counted each time it is reached (what is shared counts as often as it is met; a slice's spare places count too). A statement '..UptoSaid' is the law's where the arguments, and the package variables that the reading takes, are together of bulk at most 1048576: NARROWER than '..Said'. Prove '..Said' where nothing that the law and all that it calls make is longer than what came in: it says more and counts as full. Else prove '..UptoSaid'. A law counts once. -/
mutual
def uptoBulk {H : Type} : DataW H → Nat
  | .lit (.string bytes) => bytes.length + 1
  | .lit _ => 1
  | .nil => 1
  | .ptr d => uptoBulk d + 1
  | .slice elems spare => uptoBulkAll elems + uptoBulkAll spare + 1
  | .agg parts => uptoBulkAll parts + 1
  | .iface _ d => uptoBulk d + 1
  | .map entries => uptoBulkEntries entries + 1
  | .held _ => 1
def uptoBulkAll {H : Type} : List (DataW H) → Nat
  | [] => 0
  | d :: r => uptoBulk d + uptoBulkAll r
def uptoBulkEntries {H : Type} : List (Lit × DataW H) → Nat
  | [] => 0
  | x :: r => uptoBulkEntry x + uptoBulkEntries r
def uptoBulkEntry {H : Type} : Lit × DataW H → Nat
  | (.string bytes, d) => bytes.length + uptoBulk d + 1
  | (_, d) => uptoBulk d + 1
 end
def uptoSmall : (H : Type) → List (DataW H) → Bool := fun _ ds => decide (uptoBulkAll ds ≤ 1048576)
def OpenSpec.upto (s : _root_.Go.ChangeSpec) : _root_.Go.OpenSpec := { _root_.Go.OpenSpec.ofChange s with cond := some uptoSmall }

/-- 'moietylaw05.SpanWidens', WHERE WHAT IT READS IS OF BULK AT MOST 1048576: true; the input reads as it did. -/
def spanWidensUptoRow : OpenClaim := { program := "ytnljmjibjjjelaa", sum := "f3a3ace7b4625fd5caf88af6ce2581e8aefbc3fa889fbd3a668b565287f4edbd", func := "moiety/moietylaw05.SpanWidens", spec := "spanWidens", inPlace := ["math.Float64bits", "math.Float64frombits"], apart := false, narrowed := true }
def SpanWidensUptoSaid : Prop := spanWidensUptoRow.holds Try.pinned (OpenSpec.upto spanWidensSpec)

/-- 'moietylaw05.SpanDrifts', WHERE WHAT IT READS IS OF BULK AT MOST 1048576: true; the input reads as it did. -/
def spanDriftsUptoRow : OpenClaim := { program := "ytnljmjibjjjelaa", sum := "f3a3ace7b4625fd5caf88af6ce2581e8aefbc3fa889fbd3a668b565287f4edbd", func := "moiety/moietylaw05.SpanDrifts", spec := "spanDrifts", inPlace := ["math.Float64bits", "math.Float64frombits"], apart := false, narrowed := true }
def SpanDriftsUptoSaid : Prop := spanDriftsUptoRow.holds Try.pinned (OpenSpec.upto spanDriftsSpec)

/-- 'moietylaw05.SpanRelates', WHERE WHAT IT READS IS OF BULK AT MOST 1048576: true; the input reads as it did. -/
def spanRelatesUptoRow : OpenClaim := { program := "ytnljmjibjjjelaa", sum := "f3a3ace7b4625fd5caf88af6ce2581e8aefbc3fa889fbd3a668b565287f4edbd", func := "moiety/moietylaw05.SpanRelates", spec := "spanRelates", inPlace := ["math.Float64bits", "math.Float64frombits"], apart := false, narrowed := true }
def SpanRelatesUptoSaid : Prop := spanRelatesUptoRow.holds Try.pinned (OpenSpec.upto spanRelatesSpec)

/-- 'moietylaw05.SpanJoins', WHERE WHAT IT READS IS OF BULK AT MOST 1048576: true; the input reads as it did. -/
def spanJoinsUptoRow : OpenClaim := { program := "ytnljmjibjjjelaa", sum := "f3a3ace7b4625fd5caf88af6ce2581e8aefbc3fa889fbd3a668b565287f4edbd", func := "moiety/moietylaw05.SpanJoins", spec := "spanJoins", inPlace := ["math.Float64bits", "math.Float64frombits"], apart := false, narrowed := true }
def SpanJoinsUptoSaid : Prop := spanJoinsUptoRow.holds Try.pinned (OpenSpec.upto spanJoinsSpec)

/-- 'moietylaw05.SpanHolds', WHERE WHAT IT READS IS OF BULK AT MOST 1048576: true; the input reads as it did. -/
def spanHoldsUptoRow : OpenClaim := { program := "ytnljmjibjjjelaa", sum := "f3a3ace7b4625fd5caf88af6ce2581e8aefbc3fa889fbd3a668b565287f4edbd", func := "moiety/moietylaw05.SpanHolds", spec := "spanHolds", inPlace := ["math.Float64bits", "math.Float64frombits"], apart := false, narrowed := true }
def SpanHoldsUptoSaid : Prop := spanHoldsUptoRow.holds Try.pinned (OpenSpec.upto spanHoldsSpec)

/-- 'moietylaw05.SpanMeets', WHERE WHAT IT READS IS OF BULK AT MOST 1048576: true; the input reads as it did. -/
def spanMeetsUptoRow : OpenClaim := { program := "ytnljmjibjjjelaa", sum := "f3a3ace7b4625fd5caf88af6ce2581e8aefbc3fa889fbd3a668b565287f4edbd", func := "moiety/moietylaw05.SpanMeets", spec := "spanMeets", inPlace := ["math.Float64bits", "math.Float64frombits"], apart := false, narrowed := true }
def SpanMeetsUptoSaid : Prop := spanMeetsUptoRow.holds Try.pinned (OpenSpec.upto spanMeetsSpec)

/-- 'moietylaw05.SpanGoes', WHERE WHAT IT READS IS OF BULK AT MOST 1048576: true; the input reads as it did. -/
def spanGoesUptoRow : OpenClaim := { program := "ytnljmjibjjjelaa", sum := "f3a3ace7b4625fd5caf88af6ce2581e8aefbc3fa889fbd3a668b565287f4edbd", func := "moiety/moietylaw05.SpanGoes", spec := "spanGoes", inPlace := ["math.Float64bits", "math.Float64frombits"], apart := false, narrowed := true }
def SpanGoesUptoSaid : Prop := spanGoesUptoRow.holds Try.pinned (OpenSpec.upto spanGoesSpec)

/-- 'moietylaw05.SpanWider', WHERE WHAT IT READS IS OF BULK AT MOST 1048576: true; the input reads as it did. -/
def spanWiderUptoRow : OpenClaim := { program := "ytnljmjibjjjelaa", sum := "f3a3ace7b4625fd5caf88af6ce2581e8aefbc3fa889fbd3a668b565287f4edbd", func := "moiety/moietylaw05.SpanWider", spec := "spanWider", inPlace := ["math.Float64bits", "math.Float64frombits"], apart := false, narrowed := true }
def SpanWiderUptoSaid : Prop := spanWiderUptoRow.holds Try.pinned (OpenSpec.upto spanWiderSpec)

/-- 'moietylaw05.SpanLeast', WHERE WHAT IT READS IS OF BULK AT MOST 1048576: true; the input reads as it did. -/
def spanLeastUptoRow : OpenClaim := { program := "ytnljmjibjjjelaa", sum := "f3a3ace7b4625fd5caf88af6ce2581e8aefbc3fa889fbd3a668b565287f4edbd", func := "moiety/moietylaw05.SpanLeast", spec := "spanLeast", inPlace := ["math.Float64bits", "math.Float64frombits"], apart := false, narrowed := true }
def SpanLeastUptoSaid : Prop := spanLeastUptoRow.holds Try.pinned (OpenSpec.upto spanLeastSpec)

end Rows
end Go.Proofs.Ytnljmjibjjjelaa
