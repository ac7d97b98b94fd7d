/-
  No cell of these rows narrows 'for every input' (looked for: loops, veiled, ifaces, maps, wideKeys, modest, calm, conditions, laid).
  DERIVED. THE GIVEN ROWS OF THIS SEAT. 4 by the template 'for every input the law returns true; each argument reads behind the call as it read before'; 0 by the template 'total and deterministic' (their statements: YtkjlhhdenebbiaaTotals.lean).
  GIVEN WITH THE SEED: the statements are not yours to turn. If you find one false, say at which input.
  Laid BY PROGRAM, IN A SANDBOX (cutbox-rows.mjs): the forced cells as the released guide's own fill.sh prints them over the translation a9ef83eab3c62428… (all of the seat's roots in one cut). By AI agents, Wed Nov 11 2026. No macro, syntax, notation, axiom, sorry.
-/
import Derived.Test.YtkjlhhdenebbiaaChecked
import GoSem.Claim
import GoSem.ClaimJoined
import GoSem.ClaimMapViews
import Derived.JoinedTies
import Derived.KernelRfl
namespace Go.Proofs.Ytkjlhhdenebbiaa
/- THE CELL 'sum', in the pinned program and in every row, IS THE sha256 OF THE DUMP (.gsa) THAT YtkjlhhdenebbiaaProg.lean LOADS. Nothing in Lean hashes anything: it is a label: what it is worth is what the hold of that sum in a sandbox is worth. -/
noncomputable def Try.pinned : Pinned := { name := "ytkjlhhdenebbiaa", sum := "a9ef83eab3c624281c18e6c925ee94f0ac5bace20afe40b80024a942d217a8bd", checked := Try.checked }
namespace Rows
def none {H : Type} : Left H := { results := [], args := [] }

/-- 'moietylaw10.StampPlays': WHATEVER THE INPUT: true; the input reads as it did. -/
def stampPlaysSpec : ChangeSpec := { name := "stampPlays", fn := fun _ => fun
  | [d] => { results := [.lit (.bool true)], args := [d] }
  | _ => none }
def stampPlaysRow : OpenClaim := { program := "ytkjlhhdenebbiaa", sum := "a9ef83eab3c624281c18e6c925ee94f0ac5bace20afe40b80024a942d217a8bd", func := "moiety/moietylaw10.StampPlays", spec := "stampPlays", unfollowed := true, recurses := true, apart := false }
def StampPlaysSaid : Prop := stampPlaysRow.holds Try.pinned (OpenSpec.ofChange stampPlaysSpec)

/-- ITS FALSE NEIGHBOUR: 'it returns false'. Refute it at one input. -/
def stampPlaysWrong : ChangeSpec := { name := "stampPlays", fn := fun _ => fun
  | [d] => { results := [.lit (.bool false)], args := [d] }
  | _ => none }
def StampPlaysWrongFalsely : Prop := stampPlaysRow.holds Try.pinned (OpenSpec.ofChange stampPlaysWrong)

/-- 'moietylaw10.StampWaits': WHATEVER THE INPUT: true; the input reads as it did. -/
def stampWaitsSpec : ChangeSpec := { name := "stampWaits", fn := fun _ => fun
  | [d1, d2] => { results := [.lit (.bool true)], args := [d1, d2] }
  | _ => none }
def stampWaitsRow : OpenClaim := { program := "ytkjlhhdenebbiaa", sum := "a9ef83eab3c624281c18e6c925ee94f0ac5bace20afe40b80024a942d217a8bd", func := "moiety/moietylaw10.StampWaits", spec := "stampWaits", unfollowed := true, recurses := true, apart := false }
def StampWaitsSaid : Prop := stampWaitsRow.holds Try.pinned (OpenSpec.ofChange stampWaitsSpec)

/-- ITS FALSE NEIGHBOUR: 'it returns false'. Refute it at one input. -/
def stampWaitsWrong : ChangeSpec := { name := "stampWaits", fn := fun _ => fun
  | [d1, d2] => { results := [.lit (.bool false)], args := [d1, d2] }
  | _ => none }
def StampWaitsWrongFalsely : Prop := stampWaitsRow.holds Try.pinned (OpenSpec.ofChange stampWaitsWrong)

/-- 'moietylaw10.StampRises': WHATEVER THE INPUT: true; the input reads as it did. -/
def stampRisesSpec : ChangeSpec := { name := "stampRises", fn := fun _ => fun
  | [d] => { results := [.lit (.bool true)], args := [d] }
  | _ => none }
def stampRisesRow : OpenClaim := { program := "ytkjlhhdenebbiaa", sum := "a9ef83eab3c624281c18e6c925ee94f0ac5bace20afe40b80024a942d217a8bd", func := "moiety/moietylaw10.StampRises", spec := "stampRises", unfollowed := true, recurses := true, apart := false }
def StampRisesSaid : Prop := stampRisesRow.holds Try.pinned (OpenSpec.ofChange stampRisesSpec)

/-- ITS FALSE NEIGHBOUR: 'it returns false'. Refute it at one input. -/
def stampRisesWrong : ChangeSpec := { name := "stampRises", fn := fun _ => fun
  | [d] => { results := [.lit (.bool false)], args := [d] }
  | _ => none }
def StampRisesWrongFalsely : Prop := stampRisesRow.holds Try.pinned (OpenSpec.ofChange stampRisesWrong)

/-- 'moietylaw10.StampLeast': WHATEVER THE INPUT: true; the input reads as it did. -/
def stampLeastSpec : ChangeSpec := { name := "stampLeast", fn := fun _ => fun
  | [d1, d2, d3] => { results := [.lit (.bool true)], args := [d1, d2, d3] }
  | _ => none }
def stampLeastRow : OpenClaim := { program := "ytkjlhhdenebbiaa", sum := "a9ef83eab3c624281c18e6c925ee94f0ac5bace20afe40b80024a942d217a8bd", func := "moiety/moietylaw10.StampLeast", spec := "stampLeast", unfollowed := true, recurses := true, apart := false }
def StampLeastSaid : Prop := stampLeastRow.holds Try.pinned (OpenSpec.ofChange stampLeastSpec)

/-- ITS FALSE NEIGHBOUR: 'it returns false'. Refute it at one input. -/
def stampLeastWrong : ChangeSpec := { name := "stampLeast", fn := fun _ => fun
  | [d1, d2, d3] => { results := [.lit (.bool false)], args := [d1, d2, d3] }
  | _ => none }
def StampLeastWrongFalsely : Prop := stampLeastRow.holds Try.pinned (OpenSpec.ofChange stampLeastWrong)

/- THE SECOND FORM. 'bulk': how many values and letters a reading holds, each counted each time it is reached (what is shared counts as often as it is met; a slice's spare places count too). A statement '..UptoSaid' is the law's where the arguments, and the package variables that the reading takes, are together of bulk at most 1048576: NARROWER than '..Said'. Prove '..Said' where nothing that the law and all that it calls make is longer than what came in: it says more and counts as full. Else prove '..UptoSaid'. A law counts once. -/
mutual
def uptoBulk {H : Type} : DataW H → Nat
  | .lit (.string bytes) => bytes.length + 1
  | .lit _ => 1
  | .nil => 1
  | .ptr d => uptoBulk d + 1
  | .slice elems spare => uptoBulkAll elems + uptoBulkAll spare + 1
  | .agg parts => uptoBulkAll parts + 1
  | .iface _ d => uptoBulk d + 1
  | .map entries => uptoBulkEntries entries + 1
  | .held _ => 1
def uptoBulkAll {H : Type} : List (DataW H) → Nat
  | [] => 0
  | d :: r => uptoBulk d + uptoBulkAll r
def uptoBulkEntries {H : Type} : List (Lit × DataW H) → Nat
  | [] => 0
  | x :: r => uptoBulkEntry x + uptoBulkEntries r
def uptoBulkEntry {H : Type} : Lit × DataW H → Nat
  | (.string bytes, d) => bytes.length + uptoBulk d + 1
  | (_, d) => uptoBulk d + 1
 end
def uptoSmall : (H : Type) → List (DataW H) → Bool := fun _ ds => decide (uptoBulkAll ds ≤ 1048576)
def OpenSpec.upto (s : _root_.Go.ChangeSpec) : _root_.Go.OpenSpec := { _root_.Go.OpenSpec.ofChange s with cond := some uptoSmall }

/-- 'moietylaw10.StampPlays', WHERE WHAT IT READS IS OF BULK AT MOST 1048576: true; the input reads as it did. -/
def stampPlaysUptoRow : OpenClaim := { program := "ytkjlhhdenebbiaa", sum := "a9ef83eab3c624281c18e6c925ee94f0ac5bace20afe40b80024a942d217a8bd", func := "moiety/moietylaw10.StampPlays", spec := "stampPlays", unfollowed := true, recurses := true, apart := false, narrowed := true }
def StampPlaysUptoSaid : Prop := stampPlaysUptoRow.holds Try.pinned (OpenSpec.upto stampPlaysSpec)

/-- 'moietylaw10.StampWaits', WHERE WHAT IT READS IS OF BULK AT MOST 1048576: true; the input reads as it did. -/
def stampWaitsUptoRow : OpenClaim := { program := "ytkjlhhdenebbiaa", sum := "a9ef83eab3c624281c18e6c925ee94f0ac5bace20afe40b80024a942d217a8bd", func := "moiety/moietylaw10.StampWaits", spec := "stampWaits", unfollowed := true, recurses := true, apart := false, narrowed := true }
def StampWaitsUptoSaid : Prop := stampWaitsUptoRow.holds Try.pinned (OpenSpec.upto stampWaitsSpec)

/-- 'moietylaw10.StampRises', WHERE WHAT IT READS IS OF BULK AT MOST 1048576: true; the input reads as it did. -/
def stampRisesUptoRow : OpenClaim := { program := "ytkjlhhdenebbiaa", sum := "a9ef83eab3c624281c18e6c925ee94f0ac5bace20afe40b80024a942d217a8bd", func := "moiety/moietylaw10.StampRises", spec := "stampRises", unfollowed := true, recurses := true, apart := false, narrowed := true }
def StampRisesUptoSaid : Prop := stampRisesUptoRow.holds Try.pinned (OpenSpec.upto stampRisesSpec)

/-- 'moietylaw10.StampLeast', WHERE WHAT IT READS IS OF BULK AT MOST 1048576: true; the input reads as it did. -/
def stampLeastUptoRow : OpenClaim := { program := "ytkjlhhdenebbiaa", sum := "a9ef83eab3c624281c18e6c925ee94f0ac5bace20afe40b80024a942d217a8bd", func := "moiety/moietylaw10.StampLeast", spec := "stampLeast", unfollowed := true, recurses := true, apart := false, narrowed := true }
def StampLeastUptoSaid : Prop := stampLeastUptoRow.holds Try.pinned (OpenSpec.upto stampLeastSpec)

end Rows
end Go.Proofs.Ytkjlhhdenebbiaa
