/-
  No cell of these rows narrows 'for every input' (looked for: loops, veiled, ifaces, maps, wideKeys, modest, calm, conditions, laid).
  DERIVED. THE GIVEN ROWS OF THIS SEAT. 4 by the template 'for every input the law returns true; each argument reads behind the call as it read before'; 0 by the template 'total and deterministic' (their statements: YtjhhpcjnhjbpdaaTotals.lean).
  GIVEN WITH THE SEED: the statements are not yours to turn. If you find one false, say at which input.
  Laid BY PROGRAM, IN A SANDBOX (cutbox-rows.mjs): the forced cells as the released guide's own fill.sh prints them over the translation d7188910ce57daf7… (all of the seat's roots in one cut). By AI agents, Wed Nov 11 2026. No macro, syntax, notation, axiom, sorry.
-/
import Derived.Test.YtjhhpcjnhjbpdaaChecked
import GoSem.Claim
import GoSem.ClaimJoined
import GoSem.ClaimMapViews
import Derived.JoinedTies
import Derived.KernelRfl
namespace Go.Proofs.Ytjhhpcjnhjbpdaa
/- THE CELL 'sum', in the pinned program and in every row, IS THE sha256 OF THE DUMP (.gsa) THAT YtjhhpcjnhjbpdaaProg.lean LOADS. Nothing in Lean hashes anything: it is a label: what it is worth is what the hold of that sum in a sandbox is worth. -/
noncomputable def Try.pinned : Pinned := { name := "ytjhhpcjnhjbpdaa", sum := "d7188910ce57daf7443f8a0f9b287e1330f3f560d1b5a6ab058664e4404c3880", checked := Try.checked }
namespace Rows
def none {H : Type} : Left H := { results := [], args := [] }

/-- 'moietylaw20.StoryOrders': WHATEVER THE INPUT: true; the input reads as it did. -/
def storyOrdersSpec : ChangeSpec := { name := "storyOrders", fn := fun _ => fun
  | [d] => { results := [.lit (.bool true)], args := [d] }
  | _ => none }
def storyOrdersRow : OpenClaim := { program := "ytjhhpcjnhjbpdaa", sum := "d7188910ce57daf7443f8a0f9b287e1330f3f560d1b5a6ab058664e4404c3880", func := "moiety/moietylaw20.StoryOrders", spec := "storyOrders", inPlace := ["math.Float64bits", "math.Float64frombits"], unfollowed := true, recurses := true, apart := false }
def StoryOrdersSaid : Prop := storyOrdersRow.holds Try.pinned (OpenSpec.ofChange storyOrdersSpec)

/-- ITS FALSE NEIGHBOUR: 'it returns false'. Refute it at one input. -/
def storyOrdersWrong : ChangeSpec := { name := "storyOrders", fn := fun _ => fun
  | [d] => { results := [.lit (.bool false)], args := [d] }
  | _ => none }
def StoryOrdersWrongFalsely : Prop := storyOrdersRow.holds Try.pinned (OpenSpec.ofChange storyOrdersWrong)

/-- 'moietylaw20.StoryOutside': WHATEVER THE INPUT: true; the input reads as it did. -/
def storyOutsideSpec : ChangeSpec := { name := "storyOutside", fn := fun _ => fun
  | [d] => { results := [.lit (.bool true)], args := [d] }
  | _ => none }
def storyOutsideRow : OpenClaim := { program := "ytjhhpcjnhjbpdaa", sum := "d7188910ce57daf7443f8a0f9b287e1330f3f560d1b5a6ab058664e4404c3880", func := "moiety/moietylaw20.StoryOutside", spec := "storyOutside", inPlace := ["math.Float64bits", "math.Float64frombits"], unfollowed := true, recurses := true, apart := false }
def StoryOutsideSaid : Prop := storyOutsideRow.holds Try.pinned (OpenSpec.ofChange storyOutsideSpec)

/-- ITS FALSE NEIGHBOUR: 'it returns false'. Refute it at one input. -/
def storyOutsideWrong : ChangeSpec := { name := "storyOutside", fn := fun _ => fun
  | [d] => { results := [.lit (.bool false)], args := [d] }
  | _ => none }
def StoryOutsideWrongFalsely : Prop := storyOutsideRow.holds Try.pinned (OpenSpec.ofChange storyOutsideWrong)

/-- 'moietylaw20.StoryKeeps': WHATEVER THE INPUT: true; the input reads as it did. -/
def storyKeepsSpec : ChangeSpec := { name := "storyKeeps", fn := fun _ => fun
  | [d1, d2] => { results := [.lit (.bool true)], args := [d1, d2] }
  | _ => none }
def storyKeepsRow : OpenClaim := { program := "ytjhhpcjnhjbpdaa", sum := "d7188910ce57daf7443f8a0f9b287e1330f3f560d1b5a6ab058664e4404c3880", func := "moiety/moietylaw20.StoryKeeps", spec := "storyKeeps", inPlace := ["math.Float64bits", "math.Float64frombits"], unfollowed := true, recurses := true, apart := false }
def StoryKeepsSaid : Prop := storyKeepsRow.holds Try.pinned (OpenSpec.ofChange storyKeepsSpec)

/-- ITS FALSE NEIGHBOUR: 'it returns false'. Refute it at one input. -/
def storyKeepsWrong : ChangeSpec := { name := "storyKeeps", fn := fun _ => fun
  | [d1, d2] => { results := [.lit (.bool false)], args := [d1, d2] }
  | _ => none }
def StoryKeepsWrongFalsely : Prop := storyKeepsRow.holds Try.pinned (OpenSpec.ofChange storyKeepsWrong)

/-- 'moietylaw20.StoryTurns': WHATEVER THE INPUT: true; the input reads as it did. -/
def storyTurnsSpec : ChangeSpec := { name := "storyTurns", fn := fun _ => fun
  | [d1, d2, d3] => { results := [.lit (.bool true)], args := [d1, d2, d3] }
  | _ => none }
def storyTurnsRow : OpenClaim := { program := "ytjhhpcjnhjbpdaa", sum := "d7188910ce57daf7443f8a0f9b287e1330f3f560d1b5a6ab058664e4404c3880", func := "moiety/moietylaw20.StoryTurns", spec := "storyTurns", inPlace := ["math.Float64bits", "math.Float64frombits"], unfollowed := true, recurses := true, apart := false }
def StoryTurnsSaid : Prop := storyTurnsRow.holds Try.pinned (OpenSpec.ofChange storyTurnsSpec)

/-- ITS FALSE NEIGHBOUR: 'it returns false'. Refute it at one input. -/
def storyTurnsWrong : ChangeSpec := { name := "storyTurns", fn := fun _ => fun
  | [d1, d2, d3] => { results := [.lit (.bool false)], args := [d1, d2, d3] }
  | _ => none }
def StoryTurnsWrongFalsely : Prop := storyTurnsRow.holds Try.pinned (OpenSpec.ofChange storyTurnsWrong)

/- THE SECOND FORM. 'bulk': how many values and letters a reading holds, each counted each time it is reached (what is shared counts as often as it is met; a slice's spare places count too). A statement '..UptoSaid' is the law's where the arguments, and the package variables that the reading takes, are together of bulk at most 1048576: NARROWER than '..Said'. Prove '..Said' where nothing that the law and all that it calls make is longer than what came in: it says more and counts as full. Else prove '..UptoSaid'. A law counts once. -/
mutual
def uptoBulk {H : Type} : DataW H → Nat
  | .lit (.string bytes) => bytes.length + 1
  | .lit _ => 1
  | .nil => 1
  | .ptr d => uptoBulk d + 1
  | .slice elems spare => uptoBulkAll elems + uptoBulkAll spare + 1
  | .agg parts => uptoBulkAll parts + 1
  | .iface _ d => uptoBulk d + 1
  | .map entries => uptoBulkEntries entries + 1
  | .held _ => 1
def uptoBulkAll {H : Type} : List (DataW H) → Nat
  | [] => 0
  | d :: r => uptoBulk d + uptoBulkAll r
def uptoBulkEntries {H : Type} : List (Lit × DataW H) → Nat
  | [] => 0
  | x :: r => uptoBulkEntry x + uptoBulkEntries r
def uptoBulkEntry {H : Type} : Lit × DataW H → Nat
  | (.string bytes, d) => bytes.length + uptoBulk d + 1
  | (_, d) => uptoBulk d + 1
 end
def uptoSmall : (H : Type) → List (DataW H) → Bool := fun _ ds => decide (uptoBulkAll ds ≤ 1048576)
def OpenSpec.upto (s : _root_.Go.ChangeSpec) : _root_.Go.OpenSpec := { _root_.Go.OpenSpec.ofChange s with cond := some uptoSmall }

/-- 'moietylaw20.StoryOrders', WHERE WHAT IT READS IS OF BULK AT MOST 1048576: true; the input reads as it did. -/
def storyOrdersUptoRow : OpenClaim := { program := "ytjhhpcjnhjbpdaa", sum := "d7188910ce57daf7443f8a0f9b287e1330f3f560d1b5a6ab058664e4404c3880", func := "moiety/moietylaw20.StoryOrders", spec := "storyOrders", inPlace := ["math.Float64bits", "math.Float64frombits"], unfollowed := true, recurses := true, apart := false, narrowed := true }
def StoryOrdersUptoSaid : Prop := storyOrdersUptoRow.holds Try.pinned (OpenSpec.upto storyOrdersSpec)

/-- 'moietylaw20.StoryOutside', WHERE WHAT IT READS IS OF BULK AT MOST 1048576: true; the input reads as it did. -/
def storyOutsideUptoRow : OpenClaim := { program := "ytjhhpcjnhjbpdaa", sum := "d7188910ce57daf7443f8a0f9b287e1330f3f560d1b5a6ab058664e4404c3880", func := "moiety/moietylaw20.StoryOutside", spec := "storyOutside", inPlace := ["math.Float64bits", "math.Float64frombits"], unfollowed := true, recurses := true, apart := false, narrowed := true }
def StoryOutsideUptoSaid : Prop := storyOutsideUptoRow.holds Try.pinned (OpenSpec.upto storyOutsideSpec)

/-- 'moietylaw20.StoryKeeps', WHERE WHAT IT READS IS OF BULK AT MOST 1048576: true; the input reads as it did. -/
def storyKeepsUptoRow : OpenClaim := { program := "ytjhhpcjnhjbpdaa", sum := "d7188910ce57daf7443f8a0f9b287e1330f3f560d1b5a6ab058664e4404c3880", func := "moiety/moietylaw20.StoryKeeps", spec := "storyKeeps", inPlace := ["math.Float64bits", "math.Float64frombits"], unfollowed := true, recurses := true, apart := false, narrowed := true }
def StoryKeepsUptoSaid : Prop := storyKeepsUptoRow.holds Try.pinned (OpenSpec.upto storyKeepsSpec)

/-- 'moietylaw20.StoryTurns', WHERE WHAT IT READS IS OF BULK AT MOST 1048576: true; the input reads as it did. -/
def storyTurnsUptoRow : OpenClaim := { program := "ytjhhpcjnhjbpdaa", sum := "d7188910ce57daf7443f8a0f9b287e1330f3f560d1b5a6ab058664e4404c3880", func := "moiety/moietylaw20.StoryTurns", spec := "storyTurns", inPlace := ["math.Float64bits", "math.Float64frombits"], unfollowed := true, recurses := true, apart := false, narrowed := true }
def StoryTurnsUptoSaid : Prop := storyTurnsUptoRow.holds Try.pinned (OpenSpec.upto storyTurnsSpec)

end Rows
end Go.Proofs.Ytjhhpcjnhjbpdaa
