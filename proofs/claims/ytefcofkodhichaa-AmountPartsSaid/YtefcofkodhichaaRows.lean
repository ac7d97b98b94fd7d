/-
  No cell of these rows narrows 'for every input' (looked for: loops, veiled, ifaces, maps, wideKeys, modest, calm, conditions, laid).
  DERIVED. THE GIVEN ROWS OF THIS SEAT. 8 by the template 'for every input the law returns true; each argument reads behind the call as it read before'; 0 by the template 'total and deterministic' (their statements: YtefcofkodhichaaTotals.lean).
  GIVEN WITH THE SEED: the statements are not yours to turn. If you find one false, say at which input.
  Laid BY PROGRAM, IN A SANDBOX (cutbox-rows.mjs): the forced cells as the released guide's own fill.sh prints them over the translation 22d545b48c151563… (all of the seat's roots in one cut). By AI agents, Wed Nov 11 2026. No macro, syntax, notation, axiom, sorry.
-/
import Derived.Test.YtefcofkodhichaaChecked
import GoSem.Claim
import GoSem.ClaimJoined
import GoSem.ClaimMapViews
import Derived.JoinedTies
import Derived.KernelRfl
namespace Go.Proofs.Ytefcofkodhichaa
/- THE CELL 'sum', in the pinned program and in every row, IS THE sha256 OF THE DUMP (.gsa) THAT YtefcofkodhichaaProg.lean LOADS. Nothing in Lean hashes anything: it is a label: what it is worth is what the hold of that sum in a sandbox is worth. -/
noncomputable def Try.pinned : Pinned := { name := "ytefcofkodhichaa", sum := "22d545b48c151563b5125e3b49c7f7a8a2b3938163d6cf49ffca1fd531acf321", checked := Try.checked }
namespace Rows
def none {H : Type} : Left H := { results := [], args := [] }

/-- 'moietylaw04.AmountAdds': WHATEVER THE INPUT: true; the input reads as it did. -/
def amountAddsSpec : ChangeSpec := { name := "amountAdds", fn := fun _ => fun
  | [d1, d2] => { results := [.lit (.bool true)], args := [d1, d2] }
  | _ => none }
def amountAddsRow : OpenClaim := { program := "ytefcofkodhichaa", sum := "22d545b48c151563b5125e3b49c7f7a8a2b3938163d6cf49ffca1fd531acf321", func := "moiety/moietylaw04.AmountAdds", spec := "amountAdds", inPlace := ["math.Float64bits", "math.Float64frombits"], apart := false }
def AmountAddsSaid : Prop := amountAddsRow.holds Try.pinned (OpenSpec.ofChange amountAddsSpec)

/-- ITS FALSE NEIGHBOUR: 'it returns false'. Refute it at one input. -/
def amountAddsWrong : ChangeSpec := { name := "amountAdds", fn := fun _ => fun
  | [d1, d2] => { results := [.lit (.bool false)], args := [d1, d2] }
  | _ => none }
def AmountAddsWrongFalsely : Prop := amountAddsRow.holds Try.pinned (OpenSpec.ofChange amountAddsWrong)

/-- 'moietylaw04.AmountTotals': WHATEVER THE INPUT: true; the input reads as it did. -/
def amountTotalsSpec : ChangeSpec := { name := "amountTotals", fn := fun _ => fun
  | [d] => { results := [.lit (.bool true)], args := [d] }
  | _ => none }
def amountTotalsRow : OpenClaim := { program := "ytefcofkodhichaa", sum := "22d545b48c151563b5125e3b49c7f7a8a2b3938163d6cf49ffca1fd531acf321", func := "moiety/moietylaw04.AmountTotals", spec := "amountTotals", inPlace := ["math.Float64bits", "math.Float64frombits"], apart := false }
def AmountTotalsSaid : Prop := amountTotalsRow.holds Try.pinned (OpenSpec.ofChange amountTotalsSpec)

/-- ITS FALSE NEIGHBOUR: 'it returns false'. Refute it at one input. -/
def amountTotalsWrong : ChangeSpec := { name := "amountTotals", fn := fun _ => fun
  | [d] => { results := [.lit (.bool false)], args := [d] }
  | _ => none }
def AmountTotalsWrongFalsely : Prop := amountTotalsRow.holds Try.pinned (OpenSpec.ofChange amountTotalsWrong)

/-- 'moietylaw04.AmountSplits': WHATEVER THE INPUT: true; the input reads as it did. -/
def amountSplitsSpec : ChangeSpec := { name := "amountSplits", fn := fun _ => fun
  | [d1, d2] => { results := [.lit (.bool true)], args := [d1, d2] }
  | _ => none }
def amountSplitsRow : OpenClaim := { program := "ytefcofkodhichaa", sum := "22d545b48c151563b5125e3b49c7f7a8a2b3938163d6cf49ffca1fd531acf321", func := "moiety/moietylaw04.AmountSplits", spec := "amountSplits", inPlace := ["math.Float64bits", "math.Float64frombits"], apart := false }
def AmountSplitsSaid : Prop := amountSplitsRow.holds Try.pinned (OpenSpec.ofChange amountSplitsSpec)

/-- ITS FALSE NEIGHBOUR: 'it returns false'. Refute it at one input. -/
def amountSplitsWrong : ChangeSpec := { name := "amountSplits", fn := fun _ => fun
  | [d1, d2] => { results := [.lit (.bool false)], args := [d1, d2] }
  | _ => none }
def AmountSplitsWrongFalsely : Prop := amountSplitsRow.holds Try.pinned (OpenSpec.ofChange amountSplitsWrong)

/-- 'moietylaw04.AmountFees': WHATEVER THE INPUT: true; the input reads as it did. -/
def amountFeesSpec : ChangeSpec := { name := "amountFees", fn := fun _ => fun
  | [d1, d2] => { results := [.lit (.bool true)], args := [d1, d2] }
  | _ => none }
def amountFeesRow : OpenClaim := { program := "ytefcofkodhichaa", sum := "22d545b48c151563b5125e3b49c7f7a8a2b3938163d6cf49ffca1fd531acf321", func := "moiety/moietylaw04.AmountFees", spec := "amountFees", inPlace := ["math.Float64bits", "math.Float64frombits"], apart := false }
def AmountFeesSaid : Prop := amountFeesRow.holds Try.pinned (OpenSpec.ofChange amountFeesSpec)

/-- ITS FALSE NEIGHBOUR: 'it returns false'. Refute it at one input. -/
def amountFeesWrong : ChangeSpec := { name := "amountFees", fn := fun _ => fun
  | [d1, d2] => { results := [.lit (.bool false)], args := [d1, d2] }
  | _ => none }
def AmountFeesWrongFalsely : Prop := amountFeesRow.holds Try.pinned (OpenSpec.ofChange amountFeesWrong)

/-- 'moietylaw04.AmountParts': WHATEVER THE INPUT: true; the input reads as it did. -/
def amountPartsSpec : ChangeSpec := { name := "amountParts", fn := fun _ => fun
  | [d1, d2] => { results := [.lit (.bool true)], args := [d1, d2] }
  | _ => none }
def amountPartsRow : OpenClaim := { program := "ytefcofkodhichaa", sum := "22d545b48c151563b5125e3b49c7f7a8a2b3938163d6cf49ffca1fd531acf321", func := "moiety/moietylaw04.AmountParts", spec := "amountParts", inPlace := ["math.Float64bits", "math.Float64frombits"], apart := false }
def AmountPartsSaid : Prop := amountPartsRow.holds Try.pinned (OpenSpec.ofChange amountPartsSpec)

/-- ITS FALSE NEIGHBOUR: 'it returns false'. Refute it at one input. -/
def amountPartsWrong : ChangeSpec := { name := "amountParts", fn := fun _ => fun
  | [d1, d2] => { results := [.lit (.bool false)], args := [d1, d2] }
  | _ => none }
def AmountPartsWrongFalsely : Prop := amountPartsRow.holds Try.pinned (OpenSpec.ofChange amountPartsWrong)

/-- 'moietylaw04.AmountBack': WHATEVER THE INPUT: true; the input reads as it did. -/
def amountBackSpec : ChangeSpec := { name := "amountBack", fn := fun _ => fun
  | [d1, d2] => { results := [.lit (.bool true)], args := [d1, d2] }
  | _ => none }
def amountBackRow : OpenClaim := { program := "ytefcofkodhichaa", sum := "22d545b48c151563b5125e3b49c7f7a8a2b3938163d6cf49ffca1fd531acf321", func := "moiety/moietylaw04.AmountBack", spec := "amountBack", inPlace := ["math.Float64bits", "math.Float64frombits"], apart := false }
def AmountBackSaid : Prop := amountBackRow.holds Try.pinned (OpenSpec.ofChange amountBackSpec)

/-- ITS FALSE NEIGHBOUR: 'it returns false'. Refute it at one input. -/
def amountBackWrong : ChangeSpec := { name := "amountBack", fn := fun _ => fun
  | [d1, d2] => { results := [.lit (.bool false)], args := [d1, d2] }
  | _ => none }
def AmountBackWrongFalsely : Prop := amountBackRow.holds Try.pinned (OpenSpec.ofChange amountBackWrong)

/-- 'moietylaw04.AmountRises': WHATEVER THE INPUT: true; the input reads as it did. -/
def amountRisesSpec : ChangeSpec := { name := "amountRises", fn := fun _ => fun
  | [d1, d2] => { results := [.lit (.bool true)], args := [d1, d2] }
  | _ => none }
def amountRisesRow : OpenClaim := { program := "ytefcofkodhichaa", sum := "22d545b48c151563b5125e3b49c7f7a8a2b3938163d6cf49ffca1fd531acf321", func := "moiety/moietylaw04.AmountRises", spec := "amountRises", inPlace := ["math.Float64bits", "math.Float64frombits"], apart := false }
def AmountRisesSaid : Prop := amountRisesRow.holds Try.pinned (OpenSpec.ofChange amountRisesSpec)

/-- ITS FALSE NEIGHBOUR: 'it returns false'. Refute it at one input. -/
def amountRisesWrong : ChangeSpec := { name := "amountRises", fn := fun _ => fun
  | [d1, d2] => { results := [.lit (.bool false)], args := [d1, d2] }
  | _ => none }
def AmountRisesWrongFalsely : Prop := amountRisesRow.holds Try.pinned (OpenSpec.ofChange amountRisesWrong)

/-- 'moietylaw04.AmountTurns': WHATEVER THE INPUT: true; the input reads as it did. -/
def amountTurnsSpec : ChangeSpec := { name := "amountTurns", fn := fun _ => fun
  | [d1, d2, d3] => { results := [.lit (.bool true)], args := [d1, d2, d3] }
  | _ => none }
def amountTurnsRow : OpenClaim := { program := "ytefcofkodhichaa", sum := "22d545b48c151563b5125e3b49c7f7a8a2b3938163d6cf49ffca1fd531acf321", func := "moiety/moietylaw04.AmountTurns", spec := "amountTurns", inPlace := ["math.Float64bits", "math.Float64frombits"], apart := false }
def AmountTurnsSaid : Prop := amountTurnsRow.holds Try.pinned (OpenSpec.ofChange amountTurnsSpec)

/-- ITS FALSE NEIGHBOUR: 'it returns false'. Refute it at one input. -/
def amountTurnsWrong : ChangeSpec := { name := "amountTurns", fn := fun _ => fun
  | [d1, d2, d3] => { results := [.lit (.bool false)], args := [d1, d2, d3] }
  | _ => none }
def AmountTurnsWrongFalsely : Prop := amountTurnsRow.holds Try.pinned (OpenSpec.ofChange amountTurnsWrong)

/- THE SECOND FORM. 'bulk': how many values and letters a reading holds, each counted each time it is reached (what is shared counts as often as it is met; a slice's spare places count too). A statement '..UptoSaid' is the law's where the arguments, and the package variables that the reading takes, are together of bulk at most 1048576: NARROWER than '..Said'. Prove '..Said' where nothing that the law and all that it calls make is longer than what came in: it says more and counts as full. Else prove '..UptoSaid'. A law counts once. -/
mutual
def uptoBulk {H : Type} : DataW H → Nat
  | .lit (.string bytes) => bytes.length + 1
  | .lit _ => 1
  | .nil => 1
  | .ptr d => uptoBulk d + 1
  | .slice elems spare => uptoBulkAll elems + uptoBulkAll spare + 1
  | .agg parts => uptoBulkAll parts + 1
  | .iface _ d => uptoBulk d + 1
  | .map entries => uptoBulkEntries entries + 1
  | .held _ => 1
def uptoBulkAll {H : Type} : List (DataW H) → Nat
  | [] => 0
  | d :: r => uptoBulk d + uptoBulkAll r
def uptoBulkEntries {H : Type} : List (Lit × DataW H) → Nat
  | [] => 0
  | x :: r => uptoBulkEntry x + uptoBulkEntries r
def uptoBulkEntry {H : Type} : Lit × DataW H → Nat
  | (.string bytes, d) => bytes.length + uptoBulk d + 1
  | (_, d) => uptoBulk d + 1
 end
def uptoSmall : (H : Type) → List (DataW H) → Bool := fun _ ds => decide (uptoBulkAll ds ≤ 1048576)
def OpenSpec.upto (s : _root_.Go.ChangeSpec) : _root_.Go.OpenSpec := { _root_.Go.OpenSpec.ofChange s with cond := some uptoSmall }

/-- 'moietylaw04.AmountAdds', WHERE WHAT IT READS IS OF BULK AT MOST 1048576: true; the input reads as it did. -/
def amountAddsUptoRow : OpenClaim := { program := "ytefcofkodhichaa", sum := "22d545b48c151563b5125e3b49c7f7a8a2b3938163d6cf49ffca1fd531acf321", func := "moiety/moietylaw04.AmountAdds", spec := "amountAdds", inPlace := ["math.Float64bits", "math.Float64frombits"], apart := false, narrowed := true }
def AmountAddsUptoSaid : Prop := amountAddsUptoRow.holds Try.pinned (OpenSpec.upto amountAddsSpec)

/-- 'moietylaw04.AmountTotals', WHERE WHAT IT READS IS OF BULK AT MOST 1048576: true; the input reads as it did. -/
def amountTotalsUptoRow : OpenClaim := { program := "ytefcofkodhichaa", sum := "22d545b48c151563b5125e3b49c7f7a8a2b3938163d6cf49ffca1fd531acf321", func := "moiety/moietylaw04.AmountTotals", spec := "amountTotals", inPlace := ["math.Float64bits", "math.Float64frombits"], apart := false, narrowed := true }
def AmountTotalsUptoSaid : Prop := amountTotalsUptoRow.holds Try.pinned (OpenSpec.upto amountTotalsSpec)

/-- 'moietylaw04.AmountSplits', WHERE WHAT IT READS IS OF BULK AT MOST 1048576: true; the input reads as it did. -/
def amountSplitsUptoRow : OpenClaim := { program := "ytefcofkodhichaa", sum := "22d545b48c151563b5125e3b49c7f7a8a2b3938163d6cf49ffca1fd531acf321", func := "moiety/moietylaw04.AmountSplits", spec := "amountSplits", inPlace := ["math.Float64bits", "math.Float64frombits"], apart := false, narrowed := true }
def AmountSplitsUptoSaid : Prop := amountSplitsUptoRow.holds Try.pinned (OpenSpec.upto amountSplitsSpec)

/-- 'moietylaw04.AmountFees', WHERE WHAT IT READS IS OF BULK AT MOST 1048576: true; the input reads as it did. -/
def amountFeesUptoRow : OpenClaim := { program := "ytefcofkodhichaa", sum := "22d545b48c151563b5125e3b49c7f7a8a2b3938163d6cf49ffca1fd531acf321", func := "moiety/moietylaw04.AmountFees", spec := "amountFees", inPlace := ["math.Float64bits", "math.Float64frombits"], apart := false, narrowed := true }
def AmountFeesUptoSaid : Prop := amountFeesUptoRow.holds Try.pinned (OpenSpec.upto amountFeesSpec)

/-- 'moietylaw04.AmountParts', WHERE WHAT IT READS IS OF BULK AT MOST 1048576: true; the input reads as it did. -/
def amountPartsUptoRow : OpenClaim := { program := "ytefcofkodhichaa", sum := "22d545b48c151563b5125e3b49c7f7a8a2b3938163d6cf49ffca1fd531acf321", func := "moiety/moietylaw04.AmountParts", spec := "amountParts", inPlace := ["math.Float64bits", "math.Float64frombits"], apart := false, narrowed := true }
def AmountPartsUptoSaid : Prop := amountPartsUptoRow.holds Try.pinned (OpenSpec.upto amountPartsSpec)

/-- 'moietylaw04.AmountBack', WHERE WHAT IT READS IS OF BULK AT MOST 1048576: true; the input reads as it did. -/
def amountBackUptoRow : OpenClaim := { program := "ytefcofkodhichaa", sum := "22d545b48c151563b5125e3b49c7f7a8a2b3938163d6cf49ffca1fd531acf321", func := "moiety/moietylaw04.AmountBack", spec := "amountBack", inPlace := ["math.Float64bits", "math.Float64frombits"], apart := false, narrowed := true }
def AmountBackUptoSaid : Prop := amountBackUptoRow.holds Try.pinned (OpenSpec.upto amountBackSpec)

/-- 'moietylaw04.AmountRises', WHERE WHAT IT READS IS OF BULK AT MOST 1048576: true; the input reads as it did. -/
def amountRisesUptoRow : OpenClaim := { program := "ytefcofkodhichaa", sum := "22d545b48c151563b5125e3b49c7f7a8a2b3938163d6cf49ffca1fd531acf321", func := "moiety/moietylaw04.AmountRises", spec := "amountRises", inPlace := ["math.Float64bits", "math.Float64frombits"], apart := false, narrowed := true }
def AmountRisesUptoSaid : Prop := amountRisesUptoRow.holds Try.pinned (OpenSpec.upto amountRisesSpec)

/-- 'moietylaw04.AmountTurns', WHERE WHAT IT READS IS OF BULK AT MOST 1048576: true; the input reads as it did. -/
def amountTurnsUptoRow : OpenClaim := { program := "ytefcofkodhichaa", sum := "22d545b48c151563b5125e3b49c7f7a8a2b3938163d6cf49ffca1fd531acf321", func := "moiety/moietylaw04.AmountTurns", spec := "amountTurns", inPlace := ["math.Float64bits", "math.Float64frombits"], apart := false, narrowed := true }
def AmountTurnsUptoSaid : Prop := amountTurnsUptoRow.holds Try.pinned (OpenSpec.upto amountTurnsSpec)

end Rows
end Go.Proofs.Ytefcofkodhichaa
