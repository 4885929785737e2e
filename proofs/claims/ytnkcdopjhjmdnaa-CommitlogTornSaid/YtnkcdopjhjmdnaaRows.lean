/-
  No cell of these rows narrows 'for every input' (looked for: loops, veiled, ifaces, maps, wideKeys, modest, calm, conditions, laid).
  DERIVED. THE GIVEN ROWS OF THIS SEAT. 3 by the template 'for every input the law returns true; each argument reads behind the call as it read before'; 0 by the template 'total and deterministic' (their statements: YtnkcdopjhjmdnaaTotals.lean).
  GIVEN WITH THE SEED: the statements are not yours to turn. If you find one false, say at which input.
  Laid BY PROGRAM, IN A SANDBOX (cutbox-rows.mjs): the forced cells as the released guide's own fill.sh prints them over the translation 66201c9e5d571e59… (all of the seat's roots in one cut). By AI agents, Wed Nov 11 2026. No macro, syntax, notation, axiom, sorry.
-/
import Derived.Test.YtnkcdopjhjmdnaaChecked
import GoSem.Claim
import GoSem.ClaimJoined
import GoSem.ClaimMapViews
import Derived.JoinedTies
import Derived.KernelRfl
namespace Go.Proofs.Ytnkcdopjhjmdnaa
/- THE CELL 'sum', in the pinned program and in every row, IS THE sha256 OF THE DUMP (.gsa) THAT YtnkcdopjhjmdnaaProg.lean LOADS. Nothing in Lean hashes anything: it is a label: what it is worth is what the hold of that sum in a sandbox is worth. -/
noncomputable def Try.pinned : Pinned := { name := "ytnkcdopjhjmdnaa", sum := "66201c9e5d571e593ea333aecfdfa1901d1bc595193b553cdfc174c3deaf1dd5", checked := Try.checked }
namespace Rows
def none {H : Type} : Left H := { results := [], args := [] }

/-- 'thermographlaw09.CommitlogJoined': WHATEVER THE INPUT: true; the input reads as it did. -/
def commitlogJoinedSpec : ChangeSpec := { name := "commitlogJoined", fn := fun _ => fun
  | [d1, d2] => { results := [.lit (.bool true)], args := [d1, d2] }
  | _ => none }
def commitlogJoinedRow : OpenClaim := { program := "ytnkcdopjhjmdnaa", sum := "66201c9e5d571e593ea333aecfdfa1901d1bc595193b553cdfc174c3deaf1dd5", func := "thermograph/thermographlaw09.CommitlogJoined", spec := "commitlogJoined", unfollowed := true, recurses := true, apart := false }
def CommitlogJoinedSaid : Prop := commitlogJoinedRow.holds Try.pinned (OpenSpec.ofChange commitlogJoinedSpec)

/-- ITS FALSE NEIGHBOUR: 'it returns false'. Refute it at one input. -/
def commitlogJoinedWrong : ChangeSpec := { name := "commitlogJoined", fn := fun _ => fun
  | [d1, d2] => { results := [.lit (.bool false)], args := [d1, d2] }
  | _ => none }
def CommitlogJoinedWrongFalsely : Prop := commitlogJoinedRow.holds Try.pinned (OpenSpec.ofChange commitlogJoinedWrong)

/-- 'thermographlaw09.CommitlogBytes': WHATEVER THE INPUT: true; the input reads as it did. -/
def commitlogBytesSpec : ChangeSpec := { name := "commitlogBytes", fn := fun _ => fun
  | [d1, d2] => { results := [.lit (.bool true)], args := [d1, d2] }
  | _ => none }
def commitlogBytesRow : OpenClaim := { program := "ytnkcdopjhjmdnaa", sum := "66201c9e5d571e593ea333aecfdfa1901d1bc595193b553cdfc174c3deaf1dd5", func := "thermograph/thermographlaw09.CommitlogBytes", spec := "commitlogBytes", unfollowed := true, recurses := true, apart := false }
def CommitlogBytesSaid : Prop := commitlogBytesRow.holds Try.pinned (OpenSpec.ofChange commitlogBytesSpec)

/-- ITS FALSE NEIGHBOUR: 'it returns false'. Refute it at one input. -/
def commitlogBytesWrong : ChangeSpec := { name := "commitlogBytes", fn := fun _ => fun
  | [d1, d2] => { results := [.lit (.bool false)], args := [d1, d2] }
  | _ => none }
def CommitlogBytesWrongFalsely : Prop := commitlogBytesRow.holds Try.pinned (OpenSpec.ofChange commitlogBytesWrong)

/-- 'thermographlaw09.CommitlogTorn': WHATEVER THE INPUT: true; the input reads as it did. -/
def commitlogTornSpec : ChangeSpec := { name := "commitlogTorn", fn := fun _ => fun
  | [d1, d2] => { results := [.lit (.bool true)], args := [d1, d2] }
  | _ => none }
def commitlogTornRow : OpenClaim := { program := "ytnkcdopjhjmdnaa", sum := "66201c9e5d571e593ea333aecfdfa1901d1bc595193b553cdfc174c3deaf1dd5", func := "thermograph/thermographlaw09.CommitlogTorn", spec := "commitlogTorn", unfollowed := true, recurses := true, apart := false }
def CommitlogTornSaid : Prop := commitlogTornRow.holds Try.pinned (OpenSpec.ofChange commitlogTornSpec)

/-- ITS FALSE NEIGHBOUR: 'it returns false'. Refute it at one input. -/
def commitlogTornWrong : ChangeSpec := { name := "commitlogTorn", fn := fun _ => fun
  | [d1, d2] => { results := [.lit (.bool false)], args := [d1, d2] }
  | _ => none }
def CommitlogTornWrongFalsely : Prop := commitlogTornRow.holds Try.pinned (OpenSpec.ofChange commitlogTornWrong)

/- THE SECOND FORM. 'bulk': how many values and letters a reading holds, each counted each time it is reached (what is shared counts as often as it is met; a slice's spare places count too). A statement '..UptoSaid' is the law's where the arguments, and the package variables that the reading takes, are together of bulk at most 1048576: NARROWER than '..Said'. Prove '..Said' where nothing that the law and all that it calls make is longer than what came in: it says more and counts as full. Else prove '..UptoSaid'. A law counts once. -/
mutual
def uptoBulk {H : Type} : DataW H → Nat
  | .lit (.string bytes) => bytes.length + 1
  | .lit _ => 1
  | .nil => 1
  | .ptr d => uptoBulk d + 1
  | .slice elems spare => uptoBulkAll elems + uptoBulkAll spare + 1
  | .agg parts => uptoBulkAll parts + 1
  | .iface _ d => uptoBulk d + 1
  | .map entries => uptoBulkEntries entries + 1
  | .held _ => 1
def uptoBulkAll {H : Type} : List (DataW H) → Nat
  | [] => 0
  | d :: r => uptoBulk d + uptoBulkAll r
def uptoBulkEntries {H : Type} : List (Lit × DataW H) → Nat
  | [] => 0
  | x :: r => uptoBulkEntry x + uptoBulkEntries r
def uptoBulkEntry {H : Type} : Lit × DataW H → Nat
  | (.string bytes, d) => bytes.length + uptoBulk d + 1
  | (_, d) => uptoBulk d + 1
 end
def uptoSmall : (H : Type) → List (DataW H) → Bool := fun _ ds => decide (uptoBulkAll ds ≤ 1048576)
def OpenSpec.upto (s : _root_.Go.ChangeSpec) : _root_.Go.OpenSpec := { _root_.Go.OpenSpec.ofChange s with cond := some uptoSmall }

/-- 'thermographlaw09.CommitlogJoined', WHERE WHAT IT READS IS OF BULK AT MOST 1048576: true; the input reads as it did. -/
def commitlogJoinedUptoRow : OpenClaim := { program := "ytnkcdopjhjmdnaa", sum := "66201c9e5d571e593ea333aecfdfa1901d1bc595193b553cdfc174c3deaf1dd5", func := "thermograph/thermographlaw09.CommitlogJoined", spec := "commitlogJoined", unfollowed := true, recurses := true, apart := false, narrowed := true }
def CommitlogJoinedUptoSaid : Prop := commitlogJoinedUptoRow.holds Try.pinned (OpenSpec.upto commitlogJoinedSpec)

/-- 'thermographlaw09.CommitlogBytes', WHERE WHAT IT READS IS OF BULK AT MOST 1048576: true; the input reads as it did. -/
def commitlogBytesUptoRow : OpenClaim := { program := "ytnkcdopjhjmdnaa", sum := "66201c9e5d571e593ea333aecfdfa1901d1bc595193b553cdfc174c3deaf1dd5", func := "thermograph/thermographlaw09.CommitlogBytes", spec := "commitlogBytes", unfollowed := true, recurses := true, apart := false, narrowed := true }
def CommitlogBytesUptoSaid : Prop := commitlogBytesUptoRow.holds Try.pinned (OpenSpec.upto commitlogBytesSpec)

/-- 'thermographlaw09.CommitlogTorn', WHERE WHAT IT READS IS OF BULK AT MOST 1048576: true; the input reads as it did. -/
def commitlogTornUptoRow : OpenClaim := { program := "ytnkcdopjhjmdnaa", sum := "66201c9e5d571e593ea333aecfdfa1901d1bc595193b553cdfc174c3deaf1dd5", func := "thermograph/thermographlaw09.CommitlogTorn", spec := "commitlogTorn", unfollowed := true, recurses := true, apart := false, narrowed := true }
def CommitlogTornUptoSaid : Prop := commitlogTornUptoRow.holds Try.pinned (OpenSpec.upto commitlogTornSpec)

end Rows
end Go.Proofs.Ytnkcdopjhjmdnaa
