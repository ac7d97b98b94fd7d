/-
  No cell of these rows narrows 'for every input' (looked for: loops, veiled, ifaces, maps, wideKeys, modest, calm, conditions, laid).
  DERIVED. THE GIVEN ROWS OF THIS SEAT. 7 by the template 'for every input the law returns true; each argument reads behind the call as it read before'; 0 by the template 'total and deterministic' (their statements: YtdemonageoagiaaTotals.lean).
  GIVEN WITH THE SEED: the statements are not yours to turn. If you find one false, say at which input.
  Laid BY PROGRAM, IN A SANDBOX (cutbox-rows.mjs): the forced cells as the released guide's own fill.sh prints them over the translation a016fced6f6ccdbf… (all of the seat's roots in one cut). By AI agents, Wed Nov 11 2026. No macro, syntax, notation, axiom, sorry.
-/
import Derived.Test.YtdemonageoagiaaChecked
import GoSem.Claim
import GoSem.ClaimJoined
import GoSem.ClaimMapViews
import Derived.JoinedTies
import Derived.KernelRfl
namespace Go.Proofs.Ytdemonageoagiaa
/- THE CELL 'sum', in the pinned program and in every row, IS THE sha256 OF THE DUMP (.gsa) THAT YtdemonageoagiaaProg.lean LOADS. Nothing in Lean hashes anything: it is a label: what it is worth is what the hold of that sum in a sandbox is worth. -/
noncomputable def Try.pinned : Pinned := { name := "ytdemonageoagiaa", sum := "a016fced6f6ccdbfdfb3e8bdac0fee25b212680a80d06c320ec2d3500f8eac92", checked := Try.checked }
namespace Rows
def none {H : Type} : Left H := { results := [], args := [] }

/-- 'moietylaw06.ClockPlays': WHATEVER THE INPUT: true; the input reads as it did. -/
def clockPlaysSpec : ChangeSpec := { name := "clockPlays", fn := fun _ => fun
  | [d1, d2] => { results := [.lit (.bool true)], args := [d1, d2] }
  | _ => none }
def clockPlaysRow : OpenClaim := { program := "ytdemonageoagiaa", sum := "a016fced6f6ccdbfdfb3e8bdac0fee25b212680a80d06c320ec2d3500f8eac92", func := "moiety/moietylaw06.ClockPlays", spec := "clockPlays", inPlace := ["math.Float64bits", "math.Float64frombits"], apart := false }
def ClockPlaysSaid : Prop := clockPlaysRow.holds Try.pinned (OpenSpec.ofChange clockPlaysSpec)

/-- ITS FALSE NEIGHBOUR: 'it returns false'. Refute it at one input. -/
def clockPlaysWrong : ChangeSpec := { name := "clockPlays", fn := fun _ => fun
  | [d1, d2] => { results := [.lit (.bool false)], args := [d1, d2] }
  | _ => none }
def ClockPlaysWrongFalsely : Prop := clockPlaysRow.holds Try.pinned (OpenSpec.ofChange clockPlaysWrong)

/-- 'moietylaw06.ClockRises': WHATEVER THE INPUT: true; the input reads as it did. -/
def clockRisesSpec : ChangeSpec := { name := "clockRises", fn := fun _ => fun
  | [d1, d2] => { results := [.lit (.bool true)], args := [d1, d2] }
  | _ => none }
def clockRisesRow : OpenClaim := { program := "ytdemonageoagiaa", sum := "a016fced6f6ccdbfdfb3e8bdac0fee25b212680a80d06c320ec2d3500f8eac92", func := "moiety/moietylaw06.ClockRises", spec := "clockRises", inPlace := ["math.Float64bits", "math.Float64frombits"], apart := false }
def ClockRisesSaid : Prop := clockRisesRow.holds Try.pinned (OpenSpec.ofChange clockRisesSpec)

/-- ITS FALSE NEIGHBOUR: 'it returns false'. Refute it at one input. -/
def clockRisesWrong : ChangeSpec := { name := "clockRises", fn := fun _ => fun
  | [d1, d2] => { results := [.lit (.bool false)], args := [d1, d2] }
  | _ => none }
def ClockRisesWrongFalsely : Prop := clockRisesRow.holds Try.pinned (OpenSpec.ofChange clockRisesWrong)

/-- 'moietylaw06.ClockHolds': WHATEVER THE INPUT: true; the input reads as it did. -/
def clockHoldsSpec : ChangeSpec := { name := "clockHolds", fn := fun _ => fun
  | [d1, d2, d3] => { results := [.lit (.bool true)], args := [d1, d2, d3] }
  | _ => none }
def clockHoldsRow : OpenClaim := { program := "ytdemonageoagiaa", sum := "a016fced6f6ccdbfdfb3e8bdac0fee25b212680a80d06c320ec2d3500f8eac92", func := "moiety/moietylaw06.ClockHolds", spec := "clockHolds", inPlace := ["math.Float64bits", "math.Float64frombits"], apart := false }
def ClockHoldsSaid : Prop := clockHoldsRow.holds Try.pinned (OpenSpec.ofChange clockHoldsSpec)

/-- ITS FALSE NEIGHBOUR: 'it returns false'. Refute it at one input. -/
def clockHoldsWrong : ChangeSpec := { name := "clockHolds", fn := fun _ => fun
  | [d1, d2, d3] => { results := [.lit (.bool false)], args := [d1, d2, d3] }
  | _ => none }
def ClockHoldsWrongFalsely : Prop := clockHoldsRow.holds Try.pinned (OpenSpec.ofChange clockHoldsWrong)

/-- 'moietylaw06.ClockBoth': WHATEVER THE INPUT: true; the input reads as it did. -/
def clockBothSpec : ChangeSpec := { name := "clockBoth", fn := fun _ => fun
  | [d1, d2, d3] => { results := [.lit (.bool true)], args := [d1, d2, d3] }
  | _ => none }
def clockBothRow : OpenClaim := { program := "ytdemonageoagiaa", sum := "a016fced6f6ccdbfdfb3e8bdac0fee25b212680a80d06c320ec2d3500f8eac92", func := "moiety/moietylaw06.ClockBoth", spec := "clockBoth", inPlace := ["math.Float64bits", "math.Float64frombits"], apart := false }
def ClockBothSaid : Prop := clockBothRow.holds Try.pinned (OpenSpec.ofChange clockBothSpec)

/-- ITS FALSE NEIGHBOUR: 'it returns false'. Refute it at one input. -/
def clockBothWrong : ChangeSpec := { name := "clockBoth", fn := fun _ => fun
  | [d1, d2, d3] => { results := [.lit (.bool false)], args := [d1, d2, d3] }
  | _ => none }
def ClockBothWrongFalsely : Prop := clockBothRow.holds Try.pinned (OpenSpec.ofChange clockBothWrong)

/-- 'moietylaw06.ClockExact': WHATEVER THE INPUT: true; the input reads as it did. -/
def clockExactSpec : ChangeSpec := { name := "clockExact", fn := fun _ => fun
  | [d1, d2, d3] => { results := [.lit (.bool true)], args := [d1, d2, d3] }
  | _ => none }
def clockExactRow : OpenClaim := { program := "ytdemonageoagiaa", sum := "a016fced6f6ccdbfdfb3e8bdac0fee25b212680a80d06c320ec2d3500f8eac92", func := "moiety/moietylaw06.ClockExact", spec := "clockExact", inPlace := ["math.Float64bits", "math.Float64frombits"], apart := false }
def ClockExactSaid : Prop := clockExactRow.holds Try.pinned (OpenSpec.ofChange clockExactSpec)

/-- ITS FALSE NEIGHBOUR: 'it returns false'. Refute it at one input. -/
def clockExactWrong : ChangeSpec := { name := "clockExact", fn := fun _ => fun
  | [d1, d2, d3] => { results := [.lit (.bool false)], args := [d1, d2, d3] }
  | _ => none }
def ClockExactWrongFalsely : Prop := clockExactRow.holds Try.pinned (OpenSpec.ofChange clockExactWrong)

/-- 'moietylaw06.ClockRefuses': WHATEVER THE INPUT: true; the input reads as it did. -/
def clockRefusesSpec : ChangeSpec := { name := "clockRefuses", fn := fun _ => fun
  | [d1, d2, d3] => { results := [.lit (.bool true)], args := [d1, d2, d3] }
  | _ => none }
def clockRefusesRow : OpenClaim := { program := "ytdemonageoagiaa", sum := "a016fced6f6ccdbfdfb3e8bdac0fee25b212680a80d06c320ec2d3500f8eac92", func := "moiety/moietylaw06.ClockRefuses", spec := "clockRefuses", inPlace := ["math.Float64bits", "math.Float64frombits"], apart := false }
def ClockRefusesSaid : Prop := clockRefusesRow.holds Try.pinned (OpenSpec.ofChange clockRefusesSpec)

/-- ITS FALSE NEIGHBOUR: 'it returns false'. Refute it at one input. -/
def clockRefusesWrong : ChangeSpec := { name := "clockRefuses", fn := fun _ => fun
  | [d1, d2, d3] => { results := [.lit (.bool false)], args := [d1, d2, d3] }
  | _ => none }
def ClockRefusesWrongFalsely : Prop := clockRefusesRow.holds Try.pinned (OpenSpec.ofChange clockRefusesWrong)

/-- 'moietylaw06.ClockWidths': WHATEVER THE INPUT: true; the input reads as it did. -/
def clockWidthsSpec : ChangeSpec := { name := "clockWidths", fn := fun _ => fun
  | [d1, d2, d3] => { results := [.lit (.bool true)], args := [d1, d2, d3] }
  | _ => none }
def clockWidthsRow : OpenClaim := { program := "ytdemonageoagiaa", sum := "a016fced6f6ccdbfdfb3e8bdac0fee25b212680a80d06c320ec2d3500f8eac92", func := "moiety/moietylaw06.ClockWidths", spec := "clockWidths", inPlace := ["math.Float64bits", "math.Float64frombits"], apart := false }
def ClockWidthsSaid : Prop := clockWidthsRow.holds Try.pinned (OpenSpec.ofChange clockWidthsSpec)

/-- ITS FALSE NEIGHBOUR: 'it returns false'. Refute it at one input. -/
def clockWidthsWrong : ChangeSpec := { name := "clockWidths", fn := fun _ => fun
  | [d1, d2, d3] => { results := [.lit (.bool false)], args := [d1, d2, d3] }
  | _ => none }
def ClockWidthsWrongFalsely : Prop := clockWidthsRow.holds Try.pinned (OpenSpec.ofChange clockWidthsWrong)

/- THE SECOND FORM. 'bulk': how many values and letters a reading holds, each counted each time it is reached (what is shared counts as often as it is met; a slice's spare places count too). A statement '..UptoSaid' is the law's where the arguments, and the package variables that the reading takes, are together of bulk at most 1048576: NARROWER than '..Said'. Prove '..Said' where nothing that the law and all that it calls make is longer than what came in: it says more and counts as full. Else prove '..UptoSaid'. A law counts once. -/
mutual
def uptoBulk {H : Type} : DataW H → Nat
  | .lit (.string bytes) => bytes.length + 1
  | .lit _ => 1
  | .nil => 1
  | .ptr d => uptoBulk d + 1
  | .slice elems spare => uptoBulkAll elems + uptoBulkAll spare + 1
  | .agg parts => uptoBulkAll parts + 1
  | .iface _ d => uptoBulk d + 1
  | .map entries => uptoBulkEntries entries + 1
  | .held _ => 1
def uptoBulkAll {H : Type} : List (DataW H) → Nat
  | [] => 0
  | d :: r => uptoBulk d + uptoBulkAll r
def uptoBulkEntries {H : Type} : List (Lit × DataW H) → Nat
  | [] => 0
  | x :: r => uptoBulkEntry x + uptoBulkEntries r
def uptoBulkEntry {H : Type} : Lit × DataW H → Nat
  | (.string bytes, d) => bytes.length + uptoBulk d + 1
  | (_, d) => uptoBulk d + 1
 end
def uptoSmall : (H : Type) → List (DataW H) → Bool := fun _ ds => decide (uptoBulkAll ds ≤ 1048576)
def OpenSpec.upto (s : _root_.Go.ChangeSpec) : _root_.Go.OpenSpec := { _root_.Go.OpenSpec.ofChange s with cond := some uptoSmall }

/-- 'moietylaw06.ClockPlays', WHERE WHAT IT READS IS OF BULK AT MOST 1048576: true; the input reads as it did. -/
def clockPlaysUptoRow : OpenClaim := { program := "ytdemonageoagiaa", sum := "a016fced6f6ccdbfdfb3e8bdac0fee25b212680a80d06c320ec2d3500f8eac92", func := "moiety/moietylaw06.ClockPlays", spec := "clockPlays", inPlace := ["math.Float64bits", "math.Float64frombits"], apart := false, narrowed := true }
def ClockPlaysUptoSaid : Prop := clockPlaysUptoRow.holds Try.pinned (OpenSpec.upto clockPlaysSpec)

/-- 'moietylaw06.ClockRises', WHERE WHAT IT READS IS OF BULK AT MOST 1048576: true; the input reads as it did. -/
def clockRisesUptoRow : OpenClaim := { program := "ytdemonageoagiaa", sum := "a016fced6f6ccdbfdfb3e8bdac0fee25b212680a80d06c320ec2d3500f8eac92", func := "moiety/moietylaw06.ClockRises", spec := "clockRises", inPlace := ["math.Float64bits", "math.Float64frombits"], apart := false, narrowed := true }
def ClockRisesUptoSaid : Prop := clockRisesUptoRow.holds Try.pinned (OpenSpec.upto clockRisesSpec)

/-- 'moietylaw06.ClockHolds', WHERE WHAT IT READS IS OF BULK AT MOST 1048576: true; the input reads as it did. -/
def clockHoldsUptoRow : OpenClaim := { program := "ytdemonageoagiaa", sum := "a016fced6f6ccdbfdfb3e8bdac0fee25b212680a80d06c320ec2d3500f8eac92", func := "moiety/moietylaw06.ClockHolds", spec := "clockHolds", inPlace := ["math.Float64bits", "math.Float64frombits"], apart := false, narrowed := true }
def ClockHoldsUptoSaid : Prop := clockHoldsUptoRow.holds Try.pinned (OpenSpec.upto clockHoldsSpec)

/-- 'moietylaw06.ClockBoth', WHERE WHAT IT READS IS OF BULK AT MOST 1048576: true; the input reads as it did. -/
def clockBothUptoRow : OpenClaim := { program := "ytdemonageoagiaa", sum := "a016fced6f6ccdbfdfb3e8bdac0fee25b212680a80d06c320ec2d3500f8eac92", func := "moiety/moietylaw06.ClockBoth", spec := "clockBoth", inPlace := ["math.Float64bits", "math.Float64frombits"], apart := false, narrowed := true }
def ClockBothUptoSaid : Prop := clockBothUptoRow.holds Try.pinned (OpenSpec.upto clockBothSpec)

/-- 'moietylaw06.ClockExact', WHERE WHAT IT READS IS OF BULK AT MOST 1048576: true; the input reads as it did. -/
def clockExactUptoRow : OpenClaim := { program := "ytdemonageoagiaa", sum := "a016fced6f6ccdbfdfb3e8bdac0fee25b212680a80d06c320ec2d3500f8eac92", func := "moiety/moietylaw06.ClockExact", spec := "clockExact", inPlace := ["math.Float64bits", "math.Float64frombits"], apart := false, narrowed := true }
def ClockExactUptoSaid : Prop := clockExactUptoRow.holds Try.pinned (OpenSpec.upto clockExactSpec)

/-- 'moietylaw06.ClockRefuses', WHERE WHAT IT READS IS OF BULK AT MOST 1048576: true; the input reads as it did. -/
def clockRefusesUptoRow : OpenClaim := { program := "ytdemonageoagiaa", sum := "a016fced6f6ccdbfdfb3e8bdac0fee25b212680a80d06c320ec2d3500f8eac92", func := "moiety/moietylaw06.ClockRefuses", spec := "clockRefuses", inPlace := ["math.Float64bits", "math.Float64frombits"], apart := false, narrowed := true }
def ClockRefusesUptoSaid : Prop := clockRefusesUptoRow.holds Try.pinned (OpenSpec.upto clockRefusesSpec)

/-- 'moietylaw06.ClockWidths', WHERE WHAT IT READS IS OF BULK AT MOST 1048576: true; the input reads as it did. -/
def clockWidthsUptoRow : OpenClaim := { program := "ytdemonageoagiaa", sum := "a016fced6f6ccdbfdfb3e8bdac0fee25b212680a80d06c320ec2d3500f8eac92", func := "moiety/moietylaw06.ClockWidths", spec := "clockWidths", inPlace := ["math.Float64bits", "math.Float64frombits"], apart := false, narrowed := true }
def ClockWidthsUptoSaid : Prop := clockWidthsUptoRow.holds Try.pinned (OpenSpec.upto clockWidthsSpec)

end Rows
end Go.Proofs.Ytdemonageoagiaa
