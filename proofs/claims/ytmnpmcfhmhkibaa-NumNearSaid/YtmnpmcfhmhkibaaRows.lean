/-
  No cell of these rows narrows 'for every input' (looked for: loops, veiled, ifaces, maps, wideKeys, modest, calm, conditions, laid).
  DERIVED. THE GIVEN ROWS OF THIS SEAT. 10 by the template 'for every input the law returns true; each argument reads behind the call as it read before'; 0 by the template 'total and deterministic' (their statements: YtmnpmcfhmhkibaaTotals.lean).
  GIVEN WITH THE SEED: the statements are not yours to turn. If you find one false, say at which input.
  Laid BY PROGRAM, IN A SANDBOX (cutbox-rows.mjs): the forced cells as the released guide's own fill.sh prints them over the translation d6e8d4a6ceb9f92e… (all of the seat's roots in one cut). By AI agents, Wed Nov 11 2026. No macro, syntax, notation, axiom, sorry.
-/
import Derived.Test.YtmnpmcfhmhkibaaChecked
import GoSem.Claim
import GoSem.ClaimJoined
import GoSem.ClaimMapViews
import Derived.JoinedTies
import Derived.KernelRfl
namespace Go.Proofs.Ytmnpmcfhmhkibaa
/- THE CELL 'sum', in the pinned program and in every row, IS THE sha256 OF THE DUMP (.gsa) THAT YtmnpmcfhmhkibaaProg.lean LOADS. Nothing in Lean hashes anything: it is a label: what it is worth is what the hold of that sum in a sandbox is worth. -/
noncomputable def Try.pinned : Pinned := { name := "ytmnpmcfhmhkibaa", sum := "d6e8d4a6ceb9f92e121cac659b4554aef18dbaf9d938b3f62f667122d5c426c8", checked := Try.checked }
namespace Rows
def none {H : Type} : Left H := { results := [], args := [] }

/-- 'moietylaw01.NumTells': WHATEVER THE INPUT: true; the input reads as it did. -/
def numTellsSpec : ChangeSpec := { name := "numTells", fn := fun _ => fun
  | [d1, d2] => { results := [.lit (.bool true)], args := [d1, d2] }
  | _ => none }
def numTellsRow : OpenClaim := { program := "ytmnpmcfhmhkibaa", sum := "d6e8d4a6ceb9f92e121cac659b4554aef18dbaf9d938b3f62f667122d5c426c8", func := "moiety/moietylaw01.NumTells", spec := "numTells", inPlace := ["math.Float64bits", "math.Float64frombits", "math.archFloor", "math.archTrunc"], apart := false }
def NumTellsSaid : Prop := numTellsRow.holds Try.pinned (OpenSpec.ofChange numTellsSpec)

/-- ITS FALSE NEIGHBOUR: 'it returns false'. Refute it at one input. -/
def numTellsWrong : ChangeSpec := { name := "numTells", fn := fun _ => fun
  | [d1, d2] => { results := [.lit (.bool false)], args := [d1, d2] }
  | _ => none }
def NumTellsWrongFalsely : Prop := numTellsRow.holds Try.pinned (OpenSpec.ofChange numTellsWrong)

/-- 'moietylaw01.NumBack': WHATEVER THE INPUT: true; the input reads as it did. -/
def numBackSpec : ChangeSpec := { name := "numBack", fn := fun _ => fun
  | [d] => { results := [.lit (.bool true)], args := [d] }
  | _ => none }
def numBackRow : OpenClaim := { program := "ytmnpmcfhmhkibaa", sum := "d6e8d4a6ceb9f92e121cac659b4554aef18dbaf9d938b3f62f667122d5c426c8", func := "moiety/moietylaw01.NumBack", spec := "numBack", inPlace := ["math.Float64frombits", "math.Float64bits", "math.archFloor", "math.archTrunc"], apart := false }
def NumBackSaid : Prop := numBackRow.holds Try.pinned (OpenSpec.ofChange numBackSpec)

/-- ITS FALSE NEIGHBOUR: 'it returns false'. Refute it at one input. -/
def numBackWrong : ChangeSpec := { name := "numBack", fn := fun _ => fun
  | [d] => { results := [.lit (.bool false)], args := [d] }
  | _ => none }
def NumBackWrongFalsely : Prop := numBackRow.holds Try.pinned (OpenSpec.ofChange numBackWrong)

/-- 'moietylaw01.NumTimes': WHATEVER THE INPUT: true; the input reads as it did. -/
def numTimesSpec : ChangeSpec := { name := "numTimes", fn := fun _ => fun
  | [d1, d2] => { results := [.lit (.bool true)], args := [d1, d2] }
  | _ => none }
def numTimesRow : OpenClaim := { program := "ytmnpmcfhmhkibaa", sum := "d6e8d4a6ceb9f92e121cac659b4554aef18dbaf9d938b3f62f667122d5c426c8", func := "moiety/moietylaw01.NumTimes", spec := "numTimes", inPlace := ["math.Float64bits", "math.Float64frombits", "math.archFloor", "math.archTrunc"], apart := false }
def NumTimesSaid : Prop := numTimesRow.holds Try.pinned (OpenSpec.ofChange numTimesSpec)

/-- ITS FALSE NEIGHBOUR: 'it returns false'. Refute it at one input. -/
def numTimesWrong : ChangeSpec := { name := "numTimes", fn := fun _ => fun
  | [d1, d2] => { results := [.lit (.bool false)], args := [d1, d2] }
  | _ => none }
def NumTimesWrongFalsely : Prop := numTimesRow.holds Try.pinned (OpenSpec.ofChange numTimesWrong)

/-- 'moietylaw01.NumLeasts': WHATEVER THE INPUT: true; the input reads as it did. -/
def numLeastsSpec : ChangeSpec := { name := "numLeasts", fn := fun _ => fun
  | [d] => { results := [.lit (.bool true)], args := [d] }
  | _ => none }
def numLeastsRow : OpenClaim := { program := "ytmnpmcfhmhkibaa", sum := "d6e8d4a6ceb9f92e121cac659b4554aef18dbaf9d938b3f62f667122d5c426c8", func := "moiety/moietylaw01.NumLeasts", spec := "numLeasts", inPlace := ["math.Float64bits", "math.Float64frombits", "math.archFloor", "math.archTrunc"], apart := false }
def NumLeastsSaid : Prop := numLeastsRow.holds Try.pinned (OpenSpec.ofChange numLeastsSpec)

/-- ITS FALSE NEIGHBOUR: 'it returns false'. Refute it at one input. -/
def numLeastsWrong : ChangeSpec := { name := "numLeasts", fn := fun _ => fun
  | [d] => { results := [.lit (.bool false)], args := [d] }
  | _ => none }
def NumLeastsWrongFalsely : Prop := numLeastsRow.holds Try.pinned (OpenSpec.ofChange numLeastsWrong)

/-- 'moietylaw01.NumKeys': WHATEVER THE INPUT: true; the input reads as it did. -/
def numKeysSpec : ChangeSpec := { name := "numKeys", fn := fun _ => fun
  | [d1, d2] => { results := [.lit (.bool true)], args := [d1, d2] }
  | _ => none }
def numKeysRow : OpenClaim := { program := "ytmnpmcfhmhkibaa", sum := "d6e8d4a6ceb9f92e121cac659b4554aef18dbaf9d938b3f62f667122d5c426c8", func := "moiety/moietylaw01.NumKeys", spec := "numKeys", inPlace := ["math.Float64bits", "math.Float64frombits", "math.archFloor", "math.archTrunc"], apart := false }
def NumKeysSaid : Prop := numKeysRow.holds Try.pinned (OpenSpec.ofChange numKeysSpec)

/-- ITS FALSE NEIGHBOUR: 'it returns false'. Refute it at one input. -/
def numKeysWrong : ChangeSpec := { name := "numKeys", fn := fun _ => fun
  | [d1, d2] => { results := [.lit (.bool false)], args := [d1, d2] }
  | _ => none }
def NumKeysWrongFalsely : Prop := numKeysRow.holds Try.pinned (OpenSpec.ofChange numKeysWrong)

/-- 'moietylaw01.NumTurns': WHATEVER THE INPUT: true; the input reads as it did. -/
def numTurnsSpec : ChangeSpec := { name := "numTurns", fn := fun _ => fun
  | [d1, d2, d3] => { results := [.lit (.bool true)], args := [d1, d2, d3] }
  | _ => none }
def numTurnsRow : OpenClaim := { program := "ytmnpmcfhmhkibaa", sum := "d6e8d4a6ceb9f92e121cac659b4554aef18dbaf9d938b3f62f667122d5c426c8", func := "moiety/moietylaw01.NumTurns", spec := "numTurns", inPlace := ["math.Float64bits", "math.Float64frombits", "math.archFloor", "math.archTrunc"], apart := false }
def NumTurnsSaid : Prop := numTurnsRow.holds Try.pinned (OpenSpec.ofChange numTurnsSpec)

/-- ITS FALSE NEIGHBOUR: 'it returns false'. Refute it at one input. -/
def numTurnsWrong : ChangeSpec := { name := "numTurns", fn := fun _ => fun
  | [d1, d2, d3] => { results := [.lit (.bool false)], args := [d1, d2, d3] }
  | _ => none }
def NumTurnsWrongFalsely : Prop := numTurnsRow.holds Try.pinned (OpenSpec.ofChange numTurnsWrong)

/-- 'moietylaw01.NumGrows': WHATEVER THE INPUT: true; the input reads as it did. -/
def numGrowsSpec : ChangeSpec := { name := "numGrows", fn := fun _ => fun
  | [d1, d2, d3] => { results := [.lit (.bool true)], args := [d1, d2, d3] }
  | _ => none }
def numGrowsRow : OpenClaim := { program := "ytmnpmcfhmhkibaa", sum := "d6e8d4a6ceb9f92e121cac659b4554aef18dbaf9d938b3f62f667122d5c426c8", func := "moiety/moietylaw01.NumGrows", spec := "numGrows", inPlace := ["math.Float64bits", "math.Float64frombits", "math.archFloor", "math.archTrunc"], apart := false }
def NumGrowsSaid : Prop := numGrowsRow.holds Try.pinned (OpenSpec.ofChange numGrowsSpec)

/-- ITS FALSE NEIGHBOUR: 'it returns false'. Refute it at one input. -/
def numGrowsWrong : ChangeSpec := { name := "numGrows", fn := fun _ => fun
  | [d1, d2, d3] => { results := [.lit (.bool false)], args := [d1, d2, d3] }
  | _ => none }
def NumGrowsWrongFalsely : Prop := numGrowsRow.holds Try.pinned (OpenSpec.ofChange numGrowsWrong)

/-- 'moietylaw01.NumHalves': WHATEVER THE INPUT: true; the input reads as it did. -/
def numHalvesSpec : ChangeSpec := { name := "numHalves", fn := fun _ => fun
  | [d1, d2] => { results := [.lit (.bool true)], args := [d1, d2] }
  | _ => none }
def numHalvesRow : OpenClaim := { program := "ytmnpmcfhmhkibaa", sum := "d6e8d4a6ceb9f92e121cac659b4554aef18dbaf9d938b3f62f667122d5c426c8", func := "moiety/moietylaw01.NumHalves", spec := "numHalves", inPlace := ["math.Float64frombits", "math.Float64bits", "math.archFloor", "math.archTrunc"], apart := false }
def NumHalvesSaid : Prop := numHalvesRow.holds Try.pinned (OpenSpec.ofChange numHalvesSpec)

/-- ITS FALSE NEIGHBOUR: 'it returns false'. Refute it at one input. -/
def numHalvesWrong : ChangeSpec := { name := "numHalves", fn := fun _ => fun
  | [d1, d2] => { results := [.lit (.bool false)], args := [d1, d2] }
  | _ => none }
def NumHalvesWrongFalsely : Prop := numHalvesRow.holds Try.pinned (OpenSpec.ofChange numHalvesWrong)

/-- 'moietylaw01.NumWhole': WHATEVER THE INPUT: true; the input reads as it did. -/
def numWholeSpec : ChangeSpec := { name := "numWhole", fn := fun _ => fun
  | [d] => { results := [.lit (.bool true)], args := [d] }
  | _ => none }
def numWholeRow : OpenClaim := { program := "ytmnpmcfhmhkibaa", sum := "d6e8d4a6ceb9f92e121cac659b4554aef18dbaf9d938b3f62f667122d5c426c8", func := "moiety/moietylaw01.NumWhole", spec := "numWhole", inPlace := ["math.archFloor", "math.Float64bits", "math.Float64frombits", "math.archTrunc", "math.archCeil"], apart := false }
def NumWholeSaid : Prop := numWholeRow.holds Try.pinned (OpenSpec.ofChange numWholeSpec)

/-- ITS FALSE NEIGHBOUR: 'it returns false'. Refute it at one input. -/
def numWholeWrong : ChangeSpec := { name := "numWhole", fn := fun _ => fun
  | [d] => { results := [.lit (.bool false)], args := [d] }
  | _ => none }
def NumWholeWrongFalsely : Prop := numWholeRow.holds Try.pinned (OpenSpec.ofChange numWholeWrong)

/-- 'moietylaw01.NumNear': WHATEVER THE INPUT: true; the input reads as it did. -/
def numNearSpec : ChangeSpec := { name := "numNear", fn := fun _ => fun
  | [d] => { results := [.lit (.bool true)], args := [d] }
  | _ => none }
def numNearRow : OpenClaim := { program := "ytmnpmcfhmhkibaa", sum := "d6e8d4a6ceb9f92e121cac659b4554aef18dbaf9d938b3f62f667122d5c426c8", func := "moiety/moietylaw01.NumNear", spec := "numNear", inPlace := ["math.archFloor", "math.Float64bits", "math.Float64frombits", "math.archTrunc", "math.archCeil"], apart := false }
def NumNearSaid : Prop := numNearRow.holds Try.pinned (OpenSpec.ofChange numNearSpec)

/-- ITS FALSE NEIGHBOUR: 'it returns false'. Refute it at one input. -/
def numNearWrong : ChangeSpec := { name := "numNear", fn := fun _ => fun
  | [d] => { results := [.lit (.bool false)], args := [d] }
  | _ => none }
def NumNearWrongFalsely : Prop := numNearRow.holds Try.pinned (OpenSpec.ofChange numNearWrong)

/- THE SECOND FORM. 'bulk': how many values and letters a reading holds, each counted each time it is reached (what is shared counts as often as it is met; a slice's spare places count too). A statement '..UptoSaid' is the law's where the arguments, and the package variables that the reading takes, are together of bulk at most 1048576: NARROWER than '..Said'. Prove '..Said' where nothing that the law and all that it calls make is longer than what came in: it says more and counts as full. Else prove '..UptoSaid'. A law counts once. -/
mutual
def uptoBulk {H : Type} : DataW H → Nat
  | .lit (.string bytes) => bytes.length + 1
  | .lit _ => 1
  | .nil => 1
  | .ptr d => uptoBulk d + 1
  | .slice elems spare => uptoBulkAll elems + uptoBulkAll spare + 1
  | .agg parts => uptoBulkAll parts + 1
  | .iface _ d => uptoBulk d + 1
  | .map entries => uptoBulkEntries entries + 1
  | .held _ => 1
def uptoBulkAll {H : Type} : List (DataW H) → Nat
  | [] => 0
  | d :: r => uptoBulk d + uptoBulkAll r
def uptoBulkEntries {H : Type} : List (Lit × DataW H) → Nat
  | [] => 0
  | x :: r => uptoBulkEntry x + uptoBulkEntries r
def uptoBulkEntry {H : Type} : Lit × DataW H → Nat
  | (.string bytes, d) => bytes.length + uptoBulk d + 1
  | (_, d) => uptoBulk d + 1
 end
def uptoSmall : (H : Type) → List (DataW H) → Bool := fun _ ds => decide (uptoBulkAll ds ≤ 1048576)
def OpenSpec.upto (s : _root_.Go.ChangeSpec) : _root_.Go.OpenSpec := { _root_.Go.OpenSpec.ofChange s with cond := some uptoSmall }

/-- 'moietylaw01.NumTells', WHERE WHAT IT READS IS OF BULK AT MOST 1048576: true; the input reads as it did. -/
def numTellsUptoRow : OpenClaim := { program := "ytmnpmcfhmhkibaa", sum := "d6e8d4a6ceb9f92e121cac659b4554aef18dbaf9d938b3f62f667122d5c426c8", func := "moiety/moietylaw01.NumTells", spec := "numTells", inPlace := ["math.Float64bits", "math.Float64frombits", "math.archFloor", "math.archTrunc"], apart := false, narrowed := true }
def NumTellsUptoSaid : Prop := numTellsUptoRow.holds Try.pinned (OpenSpec.upto numTellsSpec)

/-- 'moietylaw01.NumBack', WHERE WHAT IT READS IS OF BULK AT MOST 1048576: true; the input reads as it did. -/
def numBackUptoRow : OpenClaim := { program := "ytmnpmcfhmhkibaa", sum := "d6e8d4a6ceb9f92e121cac659b4554aef18dbaf9d938b3f62f667122d5c426c8", func := "moiety/moietylaw01.NumBack", spec := "numBack", inPlace := ["math.Float64frombits", "math.Float64bits", "math.archFloor", "math.archTrunc"], apart := false, narrowed := true }
def NumBackUptoSaid : Prop := numBackUptoRow.holds Try.pinned (OpenSpec.upto numBackSpec)

/-- 'moietylaw01.NumTimes', WHERE WHAT IT READS IS OF BULK AT MOST 1048576: true; the input reads as it did. -/
def numTimesUptoRow : OpenClaim := { program := "ytmnpmcfhmhkibaa", sum := "d6e8d4a6ceb9f92e121cac659b4554aef18dbaf9d938b3f62f667122d5c426c8", func := "moiety/moietylaw01.NumTimes", spec := "numTimes", inPlace := ["math.Float64bits", "math.Float64frombits", "math.archFloor", "math.archTrunc"], apart := false, narrowed := true }
def NumTimesUptoSaid : Prop := numTimesUptoRow.holds Try.pinned (OpenSpec.upto numTimesSpec)

/-- 'moietylaw01.NumLeasts', WHERE WHAT IT READS IS OF BULK AT MOST 1048576: true; the input reads as it did. -/
def numLeastsUptoRow : OpenClaim := { program := "ytmnpmcfhmhkibaa", sum := "d6e8d4a6ceb9f92e121cac659b4554aef18dbaf9d938b3f62f667122d5c426c8", func := "moiety/moietylaw01.NumLeasts", spec := "numLeasts", inPlace := ["math.Float64bits", "math.Float64frombits", "math.archFloor", "math.archTrunc"], apart := false, narrowed := true }
def NumLeastsUptoSaid : Prop := numLeastsUptoRow.holds Try.pinned (OpenSpec.upto numLeastsSpec)

/-- 'moietylaw01.NumKeys', WHERE WHAT IT READS IS OF BULK AT MOST 1048576: true; the input reads as it did. -/
def numKeysUptoRow : OpenClaim := { program := "ytmnpmcfhmhkibaa", sum := "d6e8d4a6ceb9f92e121cac659b4554aef18dbaf9d938b3f62f667122d5c426c8", func := "moiety/moietylaw01.NumKeys", spec := "numKeys", inPlace := ["math.Float64bits", "math.Float64frombits", "math.archFloor", "math.archTrunc"], apart := false, narrowed := true }
def NumKeysUptoSaid : Prop := numKeysUptoRow.holds Try.pinned (OpenSpec.upto numKeysSpec)

/-- 'moietylaw01.NumTurns', WHERE WHAT IT READS IS OF BULK AT MOST 1048576: true; the input reads as it did. -/
def numTurnsUptoRow : OpenClaim := { program := "ytmnpmcfhmhkibaa", sum := "d6e8d4a6ceb9f92e121cac659b4554aef18dbaf9d938b3f62f667122d5c426c8", func := "moiety/moietylaw01.NumTurns", spec := "numTurns", inPlace := ["math.Float64bits", "math.Float64frombits", "math.archFloor", "math.archTrunc"], apart := false, narrowed := true }
def NumTurnsUptoSaid : Prop := numTurnsUptoRow.holds Try.pinned (OpenSpec.upto numTurnsSpec)

/-- 'moietylaw01.NumGrows', WHERE WHAT IT READS IS OF BULK AT MOST 1048576: true; the input reads as it did. -/
def numGrowsUptoRow : OpenClaim := { program := "ytmnpmcfhmhkibaa", sum := "d6e8d4a6ceb9f92e121cac659b4554aef18dbaf9d938b3f62f667122d5c426c8", func := "moiety/moietylaw01.NumGrows", spec := "numGrows", inPlace := ["math.Float64bits", "math.Float64frombits", "math.archFloor", "math.archTrunc"], apart := false, narrowed := true }
def NumGrowsUptoSaid : Prop := numGrowsUptoRow.holds Try.pinned (OpenSpec.upto numGrowsSpec)

/-- 'moietylaw01.NumHalves', WHERE WHAT IT READS IS OF BULK AT MOST 1048576: true; the input reads as it did. -/
def numHalvesUptoRow : OpenClaim := { program := "ytmnpmcfhmhkibaa", sum := "d6e8d4a6ceb9f92e121cac659b4554aef18dbaf9d938b3f62f667122d5c426c8", func := "moiety/moietylaw01.NumHalves", spec := "numHalves", inPlace := ["math.Float64frombits", "math.Float64bits", "math.archFloor", "math.archTrunc"], apart := false, narrowed := true }
def NumHalvesUptoSaid : Prop := numHalvesUptoRow.holds Try.pinned (OpenSpec.upto numHalvesSpec)

/-- 'moietylaw01.NumWhole', WHERE WHAT IT READS IS OF BULK AT MOST 1048576: true; the input reads as it did. -/
def numWholeUptoRow : OpenClaim := { program := "ytmnpmcfhmhkibaa", sum := "d6e8d4a6ceb9f92e121cac659b4554aef18dbaf9d938b3f62f667122d5c426c8", func := "moiety/moietylaw01.NumWhole", spec := "numWhole", inPlace := ["math.archFloor", "math.Float64bits", "math.Float64frombits", "math.archTrunc", "math.archCeil"], apart := false, narrowed := true }
def NumWholeUptoSaid : Prop := numWholeUptoRow.holds Try.pinned (OpenSpec.upto numWholeSpec)

/-- 'moietylaw01.NumNear', WHERE WHAT IT READS IS OF BULK AT MOST 1048576: true; the input reads as it did. -/
def numNearUptoRow : OpenClaim := { program := "ytmnpmcfhmhkibaa", sum := "d6e8d4a6ceb9f92e121cac659b4554aef18dbaf9d938b3f62f667122d5c426c8", func := "moiety/moietylaw01.NumNear", spec := "numNear", inPlace := ["math.archFloor", "math.Float64bits", "math.Float64frombits", "math.archTrunc", "math.archCeil"], apart := false, narrowed := true }
def NumNearUptoSaid : Prop := numNearUptoRow.holds Try.pinned (OpenSpec.upto numNearSpec)

end Rows
end Go.Proofs.Ytmnpmcfhmhkibaa
