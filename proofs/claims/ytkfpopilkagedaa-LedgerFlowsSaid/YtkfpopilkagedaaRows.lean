/-
  No cell of these rows narrows 'for every input' (looked for: loops, veiled, ifaces, maps, wideKeys, modest, calm, conditions, laid).
  DERIVED. THE GIVEN ROWS OF THIS SEAT. 5 by the template 'for every input the law returns true; each argument reads behind the call as it read before'; 0 by the template 'total and deterministic' (their statements: YtkfpopilkagedaaTotals.lean).
  GIVEN WITH THE SEED: the statements are not yours to turn. If you find one false, say at which input.
  Laid BY PROGRAM, IN A SANDBOX (cutbox-rows.mjs): the forced cells as the released guide's own fill.sh prints them over the translation 7d5c4843e7db6b1f… (all of the seat's roots in one cut). By AI agents, Wed Nov 11 2026. No macro, syntax, notation, axiom, sorry.
-/
import Derived.Test.YtkfpopilkagedaaChecked
import GoSem.Claim
import GoSem.ClaimJoined
import GoSem.ClaimMapViews
import Derived.JoinedTies
import Derived.KernelRfl
namespace Go.Proofs.Ytkfpopilkagedaa
/- THE CELL 'sum', in the pinned program and in every row, IS THE sha256 OF THE DUMP (.gsa) THAT YtkfpopilkagedaaProg.lean LOADS. Nothing in Lean hashes anything: it is a label: what it is worth is what the hold of that sum in a sandbox is worth. -/
noncomputable def Try.pinned : Pinned := { name := "ytkfpopilkagedaa", sum := "7d5c4843e7db6b1fe8eb1c006bd2789c8f86974675b2ee3b1161edcbe1903696", checked := Try.checked }
namespace Rows
def none {H : Type} : Left H := { results := [], args := [] }

/-- 'moietylaw14.LedgerKeeps': WHATEVER THE INPUT: true; the input reads as it did. -/
def ledgerKeepsSpec : ChangeSpec := { name := "ledgerKeeps", fn := fun _ => fun
  | [d1, d2] => { results := [.lit (.bool true)], args := [d1, d2] }
  | _ => none }
def ledgerKeepsRow : OpenClaim := { program := "ytkfpopilkagedaa", sum := "7d5c4843e7db6b1fe8eb1c006bd2789c8f86974675b2ee3b1161edcbe1903696", func := "moiety/moietylaw14.LedgerKeeps", spec := "ledgerKeeps", inPlace := ["math.Float64bits", "math.Float64frombits"], unfollowed := true, recurses := true, apart := false }
def LedgerKeepsSaid : Prop := ledgerKeepsRow.holds Try.pinned (OpenSpec.ofChange ledgerKeepsSpec)

/-- ITS FALSE NEIGHBOUR: 'it returns false'. Refute it at one input. -/
def ledgerKeepsWrong : ChangeSpec := { name := "ledgerKeeps", fn := fun _ => fun
  | [d1, d2] => { results := [.lit (.bool false)], args := [d1, d2] }
  | _ => none }
def LedgerKeepsWrongFalsely : Prop := ledgerKeepsRow.holds Try.pinned (OpenSpec.ofChange ledgerKeepsWrong)

/-- 'moietylaw14.LedgerFlows': WHATEVER THE INPUT: true; the input reads as it did. -/
def ledgerFlowsSpec : ChangeSpec := { name := "ledgerFlows", fn := fun _ => fun
  | [d1, d2, d3] => { results := [.lit (.bool true)], args := [d1, d2, d3] }
  | _ => none }
def ledgerFlowsRow : OpenClaim := { program := "ytkfpopilkagedaa", sum := "7d5c4843e7db6b1fe8eb1c006bd2789c8f86974675b2ee3b1161edcbe1903696", func := "moiety/moietylaw14.LedgerFlows", spec := "ledgerFlows", inPlace := ["math.Float64bits", "math.Float64frombits"], unfollowed := true, recurses := true, apart := false }
def LedgerFlowsSaid : Prop := ledgerFlowsRow.holds Try.pinned (OpenSpec.ofChange ledgerFlowsSpec)

/-- ITS FALSE NEIGHBOUR: 'it returns false'. Refute it at one input. -/
def ledgerFlowsWrong : ChangeSpec := { name := "ledgerFlows", fn := fun _ => fun
  | [d1, d2, d3] => { results := [.lit (.bool false)], args := [d1, d2, d3] }
  | _ => none }
def LedgerFlowsWrongFalsely : Prop := ledgerFlowsRow.holds Try.pinned (OpenSpec.ofChange ledgerFlowsWrong)

/-- 'moietylaw14.LedgerMoves': WHATEVER THE INPUT: true; the input reads as it did. -/
def ledgerMovesSpec : ChangeSpec := { name := "ledgerMoves", fn := fun _ => fun
  | [d1, d2, d3] => { results := [.lit (.bool true)], args := [d1, d2, d3] }
  | _ => none }
def ledgerMovesRow : OpenClaim := { program := "ytkfpopilkagedaa", sum := "7d5c4843e7db6b1fe8eb1c006bd2789c8f86974675b2ee3b1161edcbe1903696", func := "moiety/moietylaw14.LedgerMoves", spec := "ledgerMoves", inPlace := ["math.Float64bits", "math.Float64frombits"], unfollowed := true, recurses := true, apart := false }
def LedgerMovesSaid : Prop := ledgerMovesRow.holds Try.pinned (OpenSpec.ofChange ledgerMovesSpec)

/-- ITS FALSE NEIGHBOUR: 'it returns false'. Refute it at one input. -/
def ledgerMovesWrong : ChangeSpec := { name := "ledgerMoves", fn := fun _ => fun
  | [d1, d2, d3] => { results := [.lit (.bool false)], args := [d1, d2, d3] }
  | _ => none }
def LedgerMovesWrongFalsely : Prop := ledgerMovesRow.holds Try.pinned (OpenSpec.ofChange ledgerMovesWrong)

/-- 'moietylaw14.LedgerTurns': WHATEVER THE INPUT: true; the input reads as it did. -/
def ledgerTurnsSpec : ChangeSpec := { name := "ledgerTurns", fn := fun _ => fun
  | [d1, d2, d3] => { results := [.lit (.bool true)], args := [d1, d2, d3] }
  | _ => none }
def ledgerTurnsRow : OpenClaim := { program := "ytkfpopilkagedaa", sum := "7d5c4843e7db6b1fe8eb1c006bd2789c8f86974675b2ee3b1161edcbe1903696", func := "moiety/moietylaw14.LedgerTurns", spec := "ledgerTurns", inPlace := ["math.Float64bits", "math.Float64frombits"], unfollowed := true, recurses := true, apart := false }
def LedgerTurnsSaid : Prop := ledgerTurnsRow.holds Try.pinned (OpenSpec.ofChange ledgerTurnsSpec)

/-- ITS FALSE NEIGHBOUR: 'it returns false'. Refute it at one input. -/
def ledgerTurnsWrong : ChangeSpec := { name := "ledgerTurns", fn := fun _ => fun
  | [d1, d2, d3] => { results := [.lit (.bool false)], args := [d1, d2, d3] }
  | _ => none }
def LedgerTurnsWrongFalsely : Prop := ledgerTurnsRow.holds Try.pinned (OpenSpec.ofChange ledgerTurnsWrong)

/-- 'moietylaw14.LedgerOwn': WHATEVER THE INPUT: true; the input reads as it did. -/
def ledgerOwnSpec : ChangeSpec := { name := "ledgerOwn", fn := fun _ => fun
  | [d1, d2, d3] => { results := [.lit (.bool true)], args := [d1, d2, d3] }
  | _ => none }
def ledgerOwnRow : OpenClaim := { program := "ytkfpopilkagedaa", sum := "7d5c4843e7db6b1fe8eb1c006bd2789c8f86974675b2ee3b1161edcbe1903696", func := "moiety/moietylaw14.LedgerOwn", spec := "ledgerOwn", inPlace := ["math.Float64bits", "math.Float64frombits"], unfollowed := true, recurses := true, apart := false }
def LedgerOwnSaid : Prop := ledgerOwnRow.holds Try.pinned (OpenSpec.ofChange ledgerOwnSpec)

/-- ITS FALSE NEIGHBOUR: 'it returns false'. Refute it at one input. -/
def ledgerOwnWrong : ChangeSpec := { name := "ledgerOwn", fn := fun _ => fun
  | [d1, d2, d3] => { results := [.lit (.bool false)], args := [d1, d2, d3] }
  | _ => none }
def LedgerOwnWrongFalsely : Prop := ledgerOwnRow.holds Try.pinned (OpenSpec.ofChange ledgerOwnWrong)

/- THE SECOND FORM. 'bulk': how many values and letters a reading holds, each counted each time it is reached (what is shared counts as often as it is met; a slice's spare places count too). A statement '..UptoSaid' is the law's where the arguments, and the package variables that the reading takes, are together of bulk at most 1048576: NARROWER than '..Said'. Prove '..Said' where nothing that the law and all that it calls make is longer than what came in: it says more and counts as full. Else prove '..UptoSaid'. A law counts once. -/
mutual
def uptoBulk {H : Type} : DataW H → Nat
  | .lit (.string bytes) => bytes.length + 1
  | .lit _ => 1
  | .nil => 1
  | .ptr d => uptoBulk d + 1
  | .slice elems spare => uptoBulkAll elems + uptoBulkAll spare + 1
  | .agg parts => uptoBulkAll parts + 1
  | .iface _ d => uptoBulk d + 1
  | .map entries => uptoBulkEntries entries + 1
  | .held _ => 1
def uptoBulkAll {H : Type} : List (DataW H) → Nat
  | [] => 0
  | d :: r => uptoBulk d + uptoBulkAll r
def uptoBulkEntries {H : Type} : List (Lit × DataW H) → Nat
  | [] => 0
  | x :: r => uptoBulkEntry x + uptoBulkEntries r
def uptoBulkEntry {H : Type} : Lit × DataW H → Nat
  | (.string bytes, d) => bytes.length + uptoBulk d + 1
  | (_, d) => uptoBulk d + 1
 end
def uptoSmall : (H : Type) → List (DataW H) → Bool := fun _ ds => decide (uptoBulkAll ds ≤ 1048576)
def OpenSpec.upto (s : _root_.Go.ChangeSpec) : _root_.Go.OpenSpec := { _root_.Go.OpenSpec.ofChange s with cond := some uptoSmall }

/-- 'moietylaw14.LedgerKeeps', WHERE WHAT IT READS IS OF BULK AT MOST 1048576: true; the input reads as it did. -/
def ledgerKeepsUptoRow : OpenClaim := { program := "ytkfpopilkagedaa", sum := "7d5c4843e7db6b1fe8eb1c006bd2789c8f86974675b2ee3b1161edcbe1903696", func := "moiety/moietylaw14.LedgerKeeps", spec := "ledgerKeeps", inPlace := ["math.Float64bits", "math.Float64frombits"], unfollowed := true, recurses := true, apart := false, narrowed := true }
def LedgerKeepsUptoSaid : Prop := ledgerKeepsUptoRow.holds Try.pinned (OpenSpec.upto ledgerKeepsSpec)

/-- 'moietylaw14.LedgerFlows', WHERE WHAT IT READS IS OF BULK AT MOST 1048576: true; the input reads as it did. -/
def ledgerFlowsUptoRow : OpenClaim := { program := "ytkfpopilkagedaa", sum := "7d5c4843e7db6b1fe8eb1c006bd2789c8f86974675b2ee3b1161edcbe1903696", func := "moiety/moietylaw14.LedgerFlows", spec := "ledgerFlows", inPlace := ["math.Float64bits", "math.Float64frombits"], unfollowed := true, recurses := true, apart := false, narrowed := true }
def LedgerFlowsUptoSaid : Prop := ledgerFlowsUptoRow.holds Try.pinned (OpenSpec.upto ledgerFlowsSpec)

/-- 'moietylaw14.LedgerMoves', WHERE WHAT IT READS IS OF BULK AT MOST 1048576: true; the input reads as it did. -/
def ledgerMovesUptoRow : OpenClaim := { program := "ytkfpopilkagedaa", sum := "7d5c4843e7db6b1fe8eb1c006bd2789c8f86974675b2ee3b1161edcbe1903696", func := "moiety/moietylaw14.LedgerMoves", spec := "ledgerMoves", inPlace := ["math.Float64bits", "math.Float64frombits"], unfollowed := true, recurses := true, apart := false, narrowed := true }
def LedgerMovesUptoSaid : Prop := ledgerMovesUptoRow.holds Try.pinned (OpenSpec.upto ledgerMovesSpec)

/-- 'moietylaw14.LedgerTurns', WHERE WHAT IT READS IS OF BULK AT MOST 1048576: true; the input reads as it did. -/
def ledgerTurnsUptoRow : OpenClaim := { program := "ytkfpopilkagedaa", sum := "7d5c4843e7db6b1fe8eb1c006bd2789c8f86974675b2ee3b1161edcbe1903696", func := "moiety/moietylaw14.LedgerTurns", spec := "ledgerTurns", inPlace := ["math.Float64bits", "math.Float64frombits"], unfollowed := true, recurses := true, apart := false, narrowed := true }
def LedgerTurnsUptoSaid : Prop := ledgerTurnsUptoRow.holds Try.pinned (OpenSpec.upto ledgerTurnsSpec)

/-- 'moietylaw14.LedgerOwn', WHERE WHAT IT READS IS OF BULK AT MOST 1048576: true; the input reads as it did. -/
def ledgerOwnUptoRow : OpenClaim := { program := "ytkfpopilkagedaa", sum := "7d5c4843e7db6b1fe8eb1c006bd2789c8f86974675b2ee3b1161edcbe1903696", func := "moiety/moietylaw14.LedgerOwn", spec := "ledgerOwn", inPlace := ["math.Float64bits", "math.Float64frombits"], unfollowed := true, recurses := true, apart := false, narrowed := true }
def LedgerOwnUptoSaid : Prop := ledgerOwnUptoRow.holds Try.pinned (OpenSpec.upto ledgerOwnSpec)

end Rows
end Go.Proofs.Ytkfpopilkagedaa
