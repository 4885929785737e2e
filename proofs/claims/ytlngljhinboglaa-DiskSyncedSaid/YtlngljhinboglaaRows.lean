/-
  No cell of these rows narrows 'for every input' (looked for: loops, veiled, ifaces, maps, wideKeys, modest, calm, conditions, laid).
  DERIVED. THE GIVEN ROWS OF THIS SEAT. 5 by the template 'for every input the law returns true; each argument reads behind the call as it read before'; 0 by the template 'total and deterministic' (their statements: YtlngljhinboglaaTotals.lean).
  GIVEN WITH THE SEED: the statements are not yours to turn. If you find one false, say at which input.
  Laid BY PROGRAM, IN A SANDBOX (cutbox-rows.mjs): the forced cells as the released guide's own fill.sh prints them over the translation 3807f57c57dbf010… (all of the seat's roots in one cut). By AI agents, Wed Nov 11 2026. No macro, syntax, notation, axiom, sorry.
-/
import Derived.Test.YtlngljhinboglaaChecked
import GoSem.Claim
import GoSem.ClaimJoined
import GoSem.ClaimMapViews
import Derived.JoinedTies
import Derived.KernelRfl
namespace Go.Proofs.Ytlngljhinboglaa
/- THE CELL 'sum', in the pinned program and in every row, IS THE sha256 OF THE DUMP (.gsa) THAT YtlngljhinboglaaProg.lean LOADS. Nothing in Lean hashes anything: it is a label: what it is worth is what the hold of that sum in a sandbox is worth. -/
noncomputable def Try.pinned : Pinned := { name := "ytlngljhinboglaa", sum := "3807f57c57dbf010ed5dd0ab970cb91f51596047d6dd1225acadace1b719429c", checked := Try.checked }
namespace Rows
def none {H : Type} : Left H := { results := [], args := [] }

/-- 'thermographlaw01.DiskCuts': WHATEVER THE INPUT: true; the input reads as it did. -/
def diskCutsSpec : ChangeSpec := { name := "diskCuts", fn := fun _ => fun
  | [d1, d2, d3, d4] => { results := [.lit (.bool true)], args := [d1, d2, d3, d4] }
  | _ => none }
def diskCutsRow : OpenClaim := { program := "ytlngljhinboglaa", sum := "3807f57c57dbf010ed5dd0ab970cb91f51596047d6dd1225acadace1b719429c", func := "thermograph/thermographlaw01.DiskCuts", spec := "diskCuts", inPlace := ["maps.clone"], unfollowed := true, recurses := true, apart := false }
def DiskCutsSaid : Prop := diskCutsRow.holds Try.pinned (OpenSpec.ofChange diskCutsSpec)

/-- ITS FALSE NEIGHBOUR: 'it returns false'. Refute it at one input. -/
def diskCutsWrong : ChangeSpec := { name := "diskCuts", fn := fun _ => fun
  | [d1, d2, d3, d4] => { results := [.lit (.bool false)], args := [d1, d2, d3, d4] }
  | _ => none }
def DiskCutsWrongFalsely : Prop := diskCutsRow.holds Try.pinned (OpenSpec.ofChange diskCutsWrong)

/-- 'thermographlaw01.DiskRoom': WHATEVER THE INPUT: true; the input reads as it did. -/
def diskRoomSpec : ChangeSpec := { name := "diskRoom", fn := fun _ => fun
  | [d1, d2] => { results := [.lit (.bool true)], args := [d1, d2] }
  | _ => none }
def diskRoomRow : OpenClaim := { program := "ytlngljhinboglaa", sum := "3807f57c57dbf010ed5dd0ab970cb91f51596047d6dd1225acadace1b719429c", func := "thermograph/thermographlaw01.DiskRoom", spec := "diskRoom", inPlace := ["maps.clone"], unfollowed := true, recurses := true, apart := false }
def DiskRoomSaid : Prop := diskRoomRow.holds Try.pinned (OpenSpec.ofChange diskRoomSpec)

/-- ITS FALSE NEIGHBOUR: 'it returns false'. Refute it at one input. -/
def diskRoomWrong : ChangeSpec := { name := "diskRoom", fn := fun _ => fun
  | [d1, d2] => { results := [.lit (.bool false)], args := [d1, d2] }
  | _ => none }
def DiskRoomWrongFalsely : Prop := diskRoomRow.holds Try.pinned (OpenSpec.ofChange diskRoomWrong)

/-- 'thermographlaw01.DiskSynced': WHATEVER THE INPUT: true; the input reads as it did. -/
def diskSyncedSpec : ChangeSpec := { name := "diskSynced", fn := fun _ => fun
  | [d1, d2, d3, d4] => { results := [.lit (.bool true)], args := [d1, d2, d3, d4] }
  | _ => none }
def diskSyncedRow : OpenClaim := { program := "ytlngljhinboglaa", sum := "3807f57c57dbf010ed5dd0ab970cb91f51596047d6dd1225acadace1b719429c", func := "thermograph/thermographlaw01.DiskSynced", spec := "diskSynced", inPlace := ["maps.clone"], unfollowed := true, recurses := true, apart := false }
def DiskSyncedSaid : Prop := diskSyncedRow.holds Try.pinned (OpenSpec.ofChange diskSyncedSpec)

/-- ITS FALSE NEIGHBOUR: 'it returns false'. Refute it at one input. -/
def diskSyncedWrong : ChangeSpec := { name := "diskSynced", fn := fun _ => fun
  | [d1, d2, d3, d4] => { results := [.lit (.bool false)], args := [d1, d2, d3, d4] }
  | _ => none }
def DiskSyncedWrongFalsely : Prop := diskSyncedRow.holds Try.pinned (OpenSpec.ofChange diskSyncedWrong)

/-- 'thermographlaw01.DiskKeeps': WHATEVER THE INPUT: true; the input reads as it did. -/
def diskKeepsSpec : ChangeSpec := { name := "diskKeeps", fn := fun _ => fun
  | [d1, d2, d3] => { results := [.lit (.bool true)], args := [d1, d2, d3] }
  | _ => none }
def diskKeepsRow : OpenClaim := { program := "ytlngljhinboglaa", sum := "3807f57c57dbf010ed5dd0ab970cb91f51596047d6dd1225acadace1b719429c", func := "thermograph/thermographlaw01.DiskKeeps", spec := "diskKeeps", inPlace := ["maps.clone"], unfollowed := true, recurses := true, apart := false }
def DiskKeepsSaid : Prop := diskKeepsRow.holds Try.pinned (OpenSpec.ofChange diskKeepsSpec)

/-- ITS FALSE NEIGHBOUR: 'it returns false'. Refute it at one input. -/
def diskKeepsWrong : ChangeSpec := { name := "diskKeeps", fn := fun _ => fun
  | [d1, d2, d3] => { results := [.lit (.bool false)], args := [d1, d2, d3] }
  | _ => none }
def DiskKeepsWrongFalsely : Prop := diskKeepsRow.holds Try.pinned (OpenSpec.ofChange diskKeepsWrong)

/-- 'thermographlaw01.DiskMoves': WHATEVER THE INPUT: true; the input reads as it did. -/
def diskMovesSpec : ChangeSpec := { name := "diskMoves", fn := fun _ => fun
  | [d1, d2, d3] => { results := [.lit (.bool true)], args := [d1, d2, d3] }
  | _ => none }
def diskMovesRow : OpenClaim := { program := "ytlngljhinboglaa", sum := "3807f57c57dbf010ed5dd0ab970cb91f51596047d6dd1225acadace1b719429c", func := "thermograph/thermographlaw01.DiskMoves", spec := "diskMoves", inPlace := ["maps.clone"], unfollowed := true, recurses := true, apart := false }
def DiskMovesSaid : Prop := diskMovesRow.holds Try.pinned (OpenSpec.ofChange diskMovesSpec)

/-- ITS FALSE NEIGHBOUR: 'it returns false'. Refute it at one input. -/
def diskMovesWrong : ChangeSpec := { name := "diskMoves", fn := fun _ => fun
  | [d1, d2, d3] => { results := [.lit (.bool false)], args := [d1, d2, d3] }
  | _ => none }
def DiskMovesWrongFalsely : Prop := diskMovesRow.holds Try.pinned (OpenSpec.ofChange diskMovesWrong)

/- THE SECOND FORM. 'bulk': how many values and letters a reading holds, each counted each time it is reached (what is shared counts as often as it is met; a slice's spare places count too). A statement '..UptoSaid' is the law's where the arguments, and the package variables that the reading takes, are together of bulk at most 1048576: NARROWER than '..Said'. Prove '..Said' where nothing that the law and all that it calls make is longer than what came in: it says more and counts as full. Else prove '..UptoSaid'. A law counts once. -/
mutual
def uptoBulk {H : Type} : DataW H → Nat
  | .lit (.string bytes) => bytes.length + 1
  | .lit _ => 1
  | .nil => 1
  | .ptr d => uptoBulk d + 1
  | .slice elems spare => uptoBulkAll elems + uptoBulkAll spare + 1
  | .agg parts => uptoBulkAll parts + 1
  | .iface _ d => uptoBulk d + 1
  | .map entries => uptoBulkEntries entries + 1
  | .held _ => 1
def uptoBulkAll {H : Type} : List (DataW H) → Nat
  | [] => 0
  | d :: r => uptoBulk d + uptoBulkAll r
def uptoBulkEntries {H : Type} : List (Lit × DataW H) → Nat
  | [] => 0
  | x :: r => uptoBulkEntry x + uptoBulkEntries r
def uptoBulkEntry {H : Type} : Lit × DataW H → Nat
  | (.string bytes, d) => bytes.length + uptoBulk d + 1
  | (_, d) => uptoBulk d + 1
 end
def uptoSmall : (H : Type) → List (DataW H) → Bool := fun _ ds => decide (uptoBulkAll ds ≤ 1048576)
def OpenSpec.upto (s : _root_.Go.ChangeSpec) : _root_.Go.OpenSpec := { _root_.Go.OpenSpec.ofChange s with cond := some uptoSmall }

/-- 'thermographlaw01.DiskCuts', WHERE WHAT IT READS IS OF BULK AT MOST 1048576: true; the input reads as it did. -/
def diskCutsUptoRow : OpenClaim := { program := "ytlngljhinboglaa", sum := "3807f57c57dbf010ed5dd0ab970cb91f51596047d6dd1225acadace1b719429c", func := "thermograph/thermographlaw01.DiskCuts", spec := "diskCuts", inPlace := ["maps.clone"], unfollowed := true, recurses := true, apart := false, narrowed := true }
def DiskCutsUptoSaid : Prop := diskCutsUptoRow.holds Try.pinned (OpenSpec.upto diskCutsSpec)

/-- 'thermographlaw01.DiskRoom', WHERE WHAT IT READS IS OF BULK AT MOST 1048576: true; the input reads as it did. -/
def diskRoomUptoRow : OpenClaim := { program := "ytlngljhinboglaa", sum := "3807f57c57dbf010ed5dd0ab970cb91f51596047d6dd1225acadace1b719429c", func := "thermograph/thermographlaw01.DiskRoom", spec := "diskRoom", inPlace := ["maps.clone"], unfollowed := true, recurses := true, apart := false, narrowed := true }
def DiskRoomUptoSaid : Prop := diskRoomUptoRow.holds Try.pinned (OpenSpec.upto diskRoomSpec)

/-- 'thermographlaw01.DiskSynced', WHERE WHAT IT READS IS OF BULK AT MOST 1048576: true; the input reads as it did. -/
def diskSyncedUptoRow : OpenClaim := { program := "ytlngljhinboglaa", sum := "3807f57c57dbf010ed5dd0ab970cb91f51596047d6dd1225acadace1b719429c", func := "thermograph/thermographlaw01.DiskSynced", spec := "diskSynced", inPlace := ["maps.clone"], unfollowed := true, recurses := true, apart := false, narrowed := true }
def DiskSyncedUptoSaid : Prop := diskSyncedUptoRow.holds Try.pinned (OpenSpec.upto diskSyncedSpec)

/-- 'thermographlaw01.DiskKeeps', WHERE WHAT IT READS IS OF BULK AT MOST 1048576: true; the input reads as it did. -/
def diskKeepsUptoRow : OpenClaim := { program := "ytlngljhinboglaa", sum := "3807f57c57dbf010ed5dd0ab970cb91f51596047d6dd1225acadace1b719429c", func := "thermograph/thermographlaw01.DiskKeeps", spec := "diskKeeps", inPlace := ["maps.clone"], unfollowed := true, recurses := true, apart := false, narrowed := true }
def DiskKeepsUptoSaid : Prop := diskKeepsUptoRow.holds Try.pinned (OpenSpec.upto diskKeepsSpec)

/-- 'thermographlaw01.DiskMoves', WHERE WHAT IT READS IS OF BULK AT MOST 1048576: true; the input reads as it did. -/
def diskMovesUptoRow : OpenClaim := { program := "ytlngljhinboglaa", sum := "3807f57c57dbf010ed5dd0ab970cb91f51596047d6dd1225acadace1b719429c", func := "thermograph/thermographlaw01.DiskMoves", spec := "diskMoves", inPlace := ["maps.clone"], unfollowed := true, recurses := true, apart := false, narrowed := true }
def DiskMovesUptoSaid : Prop := diskMovesUptoRow.holds Try.pinned (OpenSpec.upto diskMovesSpec)

end Rows
end Go.Proofs.Ytlngljhinboglaa
