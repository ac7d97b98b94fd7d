/-
  No cell of these rows narrows 'for every input' (looked for: loops, veiled, ifaces, maps, wideKeys, modest, calm, conditions, laid).
  DERIVED. THE GIVEN ROWS OF THIS SEAT. 5 by the template 'for every input the law returns true; each argument reads behind the call as it read before'; 0 by the template 'total and deterministic' (their statements: YtajojpfenlafbaaTotals.lean).
  GIVEN WITH THE SEED: the statements are not yours to turn. If you find one false, say at which input.
  Laid BY PROGRAM, IN A SANDBOX (cutbox-rows.mjs): the forced cells as the released guide's own fill.sh prints them over the translation 42927c00e57309e4… (all of the seat's roots in one cut). By AI agents, Wed Nov 11 2026. No macro, syntax, notation, axiom, sorry.
-/
import Derived.Test.YtajojpfenlafbaaChecked
import GoSem.Claim
import GoSem.ClaimJoined
import GoSem.ClaimMapViews
import Derived.JoinedTies
import Derived.KernelRfl
namespace Go.Proofs.Ytajojpfenlafbaa
/- THE CELL 'sum', in the pinned program and in every row, IS THE sha256 OF THE DUMP (.gsa) THAT YtajojpfenlafbaaProg.lean LOADS. Nothing in Lean hashes anything: it is a label: what it is worth is what the hold of that sum in a sandbox is worth. -/
noncomputable def Try.pinned : Pinned := { name := "ytajojpfenlafbaa", sum := "42927c00e57309e4a82538854104e63372bf452bf60172465018d85f45de9894", checked := Try.checked }
namespace Rows
def none {H : Type} : Left H := { results := [], args := [] }

/-- 'moietylaw23.LeaseHolders': WHATEVER THE INPUT: true; the input reads as it did. -/
def leaseHoldersSpec : ChangeSpec := { name := "leaseHolders", fn := fun _ => fun
  | [d1, d2] => { results := [.lit (.bool true)], args := [d1, d2] }
  | _ => none }
def leaseHoldersRow : OpenClaim := { program := "ytajojpfenlafbaa", sum := "42927c00e57309e4a82538854104e63372bf452bf60172465018d85f45de9894", func := "moiety/moietylaw23.LeaseHolders", spec := "leaseHolders", unfollowed := true, recurses := true, apart := false }
def LeaseHoldersSaid : Prop := leaseHoldersRow.holds Try.pinned (OpenSpec.ofChange leaseHoldersSpec)

/-- ITS FALSE NEIGHBOUR: 'it returns false'. Refute it at one input. -/
def leaseHoldersWrong : ChangeSpec := { name := "leaseHolders", fn := fun _ => fun
  | [d1, d2] => { results := [.lit (.bool false)], args := [d1, d2] }
  | _ => none }
def LeaseHoldersWrongFalsely : Prop := leaseHoldersRow.holds Try.pinned (OpenSpec.ofChange leaseHoldersWrong)

/-- 'moietylaw23.LeaseHalf': WHATEVER THE INPUT: true; the input reads as it did. -/
def leaseHalfSpec : ChangeSpec := { name := "leaseHalf", fn := fun _ => fun
  | [d1, d2] => { results := [.lit (.bool true)], args := [d1, d2] }
  | _ => none }
def leaseHalfRow : OpenClaim := { program := "ytajojpfenlafbaa", sum := "42927c00e57309e4a82538854104e63372bf452bf60172465018d85f45de9894", func := "moiety/moietylaw23.LeaseHalf", spec := "leaseHalf", unfollowed := true, recurses := true, apart := false }
def LeaseHalfSaid : Prop := leaseHalfRow.holds Try.pinned (OpenSpec.ofChange leaseHalfSpec)

/-- ITS FALSE NEIGHBOUR: 'it returns false'. Refute it at one input. -/
def leaseHalfWrong : ChangeSpec := { name := "leaseHalf", fn := fun _ => fun
  | [d1, d2] => { results := [.lit (.bool false)], args := [d1, d2] }
  | _ => none }
def LeaseHalfWrongFalsely : Prop := leaseHalfRow.holds Try.pinned (OpenSpec.ofChange leaseHalfWrong)

/-- 'moietylaw23.LeaseGrants': WHATEVER THE INPUT: true; the input reads as it did. -/
def leaseGrantsSpec : ChangeSpec := { name := "leaseGrants", fn := fun _ => fun
  | [d] => { results := [.lit (.bool true)], args := [d] }
  | _ => none }
def leaseGrantsRow : OpenClaim := { program := "ytajojpfenlafbaa", sum := "42927c00e57309e4a82538854104e63372bf452bf60172465018d85f45de9894", func := "moiety/moietylaw23.LeaseGrants", spec := "leaseGrants", unfollowed := true, recurses := true, apart := false }
def LeaseGrantsSaid : Prop := leaseGrantsRow.holds Try.pinned (OpenSpec.ofChange leaseGrantsSpec)

/-- ITS FALSE NEIGHBOUR: 'it returns false'. Refute it at one input. -/
def leaseGrantsWrong : ChangeSpec := { name := "leaseGrants", fn := fun _ => fun
  | [d] => { results := [.lit (.bool false)], args := [d] }
  | _ => none }
def LeaseGrantsWrongFalsely : Prop := leaseGrantsRow.holds Try.pinned (OpenSpec.ofChange leaseGrantsWrong)

/-- 'moietylaw23.LeaseApart': WHATEVER THE INPUT: true; the input reads as it did. -/
def leaseApartSpec : ChangeSpec := { name := "leaseApart", fn := fun _ => fun
  | [d1, d2, d3] => { results := [.lit (.bool true)], args := [d1, d2, d3] }
  | _ => none }
def leaseApartRow : OpenClaim := { program := "ytajojpfenlafbaa", sum := "42927c00e57309e4a82538854104e63372bf452bf60172465018d85f45de9894", func := "moiety/moietylaw23.LeaseApart", spec := "leaseApart", inPlace := ["math.Float64bits", "math.Float64frombits"], unfollowed := true, recurses := true, apart := false }
def LeaseApartSaid : Prop := leaseApartRow.holds Try.pinned (OpenSpec.ofChange leaseApartSpec)

/-- ITS FALSE NEIGHBOUR: 'it returns false'. Refute it at one input. -/
def leaseApartWrong : ChangeSpec := { name := "leaseApart", fn := fun _ => fun
  | [d1, d2, d3] => { results := [.lit (.bool false)], args := [d1, d2, d3] }
  | _ => none }
def LeaseApartWrongFalsely : Prop := leaseApartRow.holds Try.pinned (OpenSpec.ofChange leaseApartWrong)

/-- 'moietylaw23.LeaseStamps': WHATEVER THE INPUT: true; the input reads as it did. -/
def leaseStampsSpec : ChangeSpec := { name := "leaseStamps", fn := fun _ => fun
  | [d1, d2, d3] => { results := [.lit (.bool true)], args := [d1, d2, d3] }
  | _ => none }
def leaseStampsRow : OpenClaim := { program := "ytajojpfenlafbaa", sum := "42927c00e57309e4a82538854104e63372bf452bf60172465018d85f45de9894", func := "moiety/moietylaw23.LeaseStamps", spec := "leaseStamps", inPlace := ["math.Float64bits", "math.Float64frombits"], unfollowed := true, recurses := true, apart := false }
def LeaseStampsSaid : Prop := leaseStampsRow.holds Try.pinned (OpenSpec.ofChange leaseStampsSpec)

/-- ITS FALSE NEIGHBOUR: 'it returns false'. Refute it at one input. -/
def leaseStampsWrong : ChangeSpec := { name := "leaseStamps", fn := fun _ => fun
  | [d1, d2, d3] => { results := [.lit (.bool false)], args := [d1, d2, d3] }
  | _ => none }
def LeaseStampsWrongFalsely : Prop := leaseStampsRow.holds Try.pinned (OpenSpec.ofChange leaseStampsWrong)

/- THE SECOND FORM. 'bulk': how many values and letters a reading holds, each counted each time it is reached (what is shared counts as often as it is met; a slice's spare places count too). A statement '..UptoSaid' is the law's where the arguments, and the package variables that the reading takes, are together of bulk at most 1048576: NARROWER than '..Said'. Prove '..Said' where nothing that the law and all that it calls make is longer than what came in: it says more and counts as full. Else prove '..UptoSaid'. A law counts once. -/
mutual
def uptoBulk {H : Type} : DataW H → Nat
  | .lit (.string bytes) => bytes.length + 1
  | .lit _ => 1
  | .nil => 1
  | .ptr d => uptoBulk d + 1
  | .slice elems spare => uptoBulkAll elems + uptoBulkAll spare + 1
  | .agg parts => uptoBulkAll parts + 1
  | .iface _ d => uptoBulk d + 1
  | .map entries => uptoBulkEntries entries + 1
  | .held _ => 1
def uptoBulkAll {H : Type} : List (DataW H) → Nat
  | [] => 0
  | d :: r => uptoBulk d + uptoBulkAll r
def uptoBulkEntries {H : Type} : List (Lit × DataW H) → Nat
  | [] => 0
  | x :: r => uptoBulkEntry x + uptoBulkEntries r
def uptoBulkEntry {H : Type} : Lit × DataW H → Nat
  | (.string bytes, d) => bytes.length + uptoBulk d + 1
  | (_, d) => uptoBulk d + 1
 end
def uptoSmall : (H : Type) → List (DataW H) → Bool := fun _ ds => decide (uptoBulkAll ds ≤ 1048576)
def OpenSpec.upto (s : _root_.Go.ChangeSpec) : _root_.Go.OpenSpec := { _root_.Go.OpenSpec.ofChange s with cond := some uptoSmall }

/-- 'moietylaw23.LeaseHolders', WHERE WHAT IT READS IS OF BULK AT MOST 1048576: true; the input reads as it did. -/
def leaseHoldersUptoRow : OpenClaim := { program := "ytajojpfenlafbaa", sum := "42927c00e57309e4a82538854104e63372bf452bf60172465018d85f45de9894", func := "moiety/moietylaw23.LeaseHolders", spec := "leaseHolders", unfollowed := true, recurses := true, apart := false, narrowed := true }
def LeaseHoldersUptoSaid : Prop := leaseHoldersUptoRow.holds Try.pinned (OpenSpec.upto leaseHoldersSpec)

/-- 'moietylaw23.LeaseHalf', WHERE WHAT IT READS IS OF BULK AT MOST 1048576: true; the input reads as it did. -/
def leaseHalfUptoRow : OpenClaim := { program := "ytajojpfenlafbaa", sum := "42927c00e57309e4a82538854104e63372bf452bf60172465018d85f45de9894", func := "moiety/moietylaw23.LeaseHalf", spec := "leaseHalf", unfollowed := true, recurses := true, apart := false, narrowed := true }
def LeaseHalfUptoSaid : Prop := leaseHalfUptoRow.holds Try.pinned (OpenSpec.upto leaseHalfSpec)

/-- 'moietylaw23.LeaseGrants', WHERE WHAT IT READS IS OF BULK AT MOST 1048576: true; the input reads as it did. -/
def leaseGrantsUptoRow : OpenClaim := { program := "ytajojpfenlafbaa", sum := "42927c00e57309e4a82538854104e63372bf452bf60172465018d85f45de9894", func := "moiety/moietylaw23.LeaseGrants", spec := "leaseGrants", unfollowed := true, recurses := true, apart := false, narrowed := true }
def LeaseGrantsUptoSaid : Prop := leaseGrantsUptoRow.holds Try.pinned (OpenSpec.upto leaseGrantsSpec)

/-- 'moietylaw23.LeaseApart', WHERE WHAT IT READS IS OF BULK AT MOST 1048576: true; the input reads as it did. -/
def leaseApartUptoRow : OpenClaim := { program := "ytajojpfenlafbaa", sum := "42927c00e57309e4a82538854104e63372bf452bf60172465018d85f45de9894", func := "moiety/moietylaw23.LeaseApart", spec := "leaseApart", inPlace := ["math.Float64bits", "math.Float64frombits"], unfollowed := true, recurses := true, apart := false, narrowed := true }
def LeaseApartUptoSaid : Prop := leaseApartUptoRow.holds Try.pinned (OpenSpec.upto leaseApartSpec)

/-- 'moietylaw23.LeaseStamps', WHERE WHAT IT READS IS OF BULK AT MOST 1048576: true; the input reads as it did. -/
def leaseStampsUptoRow : OpenClaim := { program := "ytajojpfenlafbaa", sum := "42927c00e57309e4a82538854104e63372bf452bf60172465018d85f45de9894", func := "moiety/moietylaw23.LeaseStamps", spec := "leaseStamps", inPlace := ["math.Float64bits", "math.Float64frombits"], unfollowed := true, recurses := true, apart := false, narrowed := true }
def LeaseStampsUptoSaid : Prop := leaseStampsUptoRow.holds Try.pinned (OpenSpec.upto leaseStampsSpec)

end Rows
end Go.Proofs.Ytajojpfenlafbaa
