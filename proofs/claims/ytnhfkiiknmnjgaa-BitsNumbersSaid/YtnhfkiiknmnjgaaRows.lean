/-
  No cell of these rows narrows 'for every input' (looked for: loops, veiled, ifaces, maps, wideKeys, modest, calm, conditions, laid).
  DERIVED. THE GIVEN ROWS OF THIS SEAT. 8 by the template 'for every input the law returns true; each argument reads behind the call as it read before'; 0 by the template 'total and deterministic' (their statements: YtnhfkiiknmnjgaaTotals.lean).
  GIVEN WITH THE SEED: the statements are not yours to turn. If you find one false, say at which input.
  Laid BY PROGRAM, IN A SANDBOX (cutbox-rows.mjs): the forced cells as the released guide's own fill.sh prints them over the translation 85498cb0aa59b211… (all of the seat's roots in one cut). By AI agents, Wed Nov 11 2026. No macro, syntax, notation, axiom, sorry.
-/
import Derived.Test.YtnhfkiiknmnjgaaChecked
import GoSem.Claim
import GoSem.ClaimJoined
import GoSem.ClaimMapViews
import Derived.JoinedTies
import Derived.KernelRfl
namespace Go.Proofs.Ytnhfkiiknmnjgaa
/- THE CELL 'sum', in the pinned program and in every row, IS THE sha256 OF THE DUMP (.gsa) THAT YtnhfkiiknmnjgaaProg.lean LOADS. Nothing in Lean hashes anything: it is a label: what it is worth is what the hold of that sum in a sandbox is worth. -/
noncomputable def Try.pinned : Pinned := { name := "ytnhfkiiknmnjgaa", sum := "85498cb0aa59b211591a390a9ec3fd943bc527963817ed27b43d1c6d96204220", checked := Try.checked }
namespace Rows
def none {H : Type} : Left H := { results := [], args := [] }

/-- 'thermographlaw03.BitsZigs': WHATEVER THE INPUT: true; the input reads as it did. -/
def bitsZigsSpec : ChangeSpec := { name := "bitsZigs", fn := fun _ => fun
  | [d1, d2] => { results := [.lit (.bool true)], args := [d1, d2] }
  | _ => none }
def bitsZigsRow : OpenClaim := { program := "ytnhfkiiknmnjgaa", sum := "85498cb0aa59b211591a390a9ec3fd943bc527963817ed27b43d1c6d96204220", func := "thermograph/thermographlaw03.BitsZigs", spec := "bitsZigs", apart := false }
def BitsZigsSaid : Prop := bitsZigsRow.holds Try.pinned (OpenSpec.ofChange bitsZigsSpec)

/-- ITS FALSE NEIGHBOUR: 'it returns false'. Refute it at one input. -/
def bitsZigsWrong : ChangeSpec := { name := "bitsZigs", fn := fun _ => fun
  | [d1, d2] => { results := [.lit (.bool false)], args := [d1, d2] }
  | _ => none }
def BitsZigsWrongFalsely : Prop := bitsZigsRow.holds Try.pinned (OpenSpec.ofChange bitsZigsWrong)

/-- 'thermographlaw03.BitsReads': WHATEVER THE INPUT: true; the input reads as it did. -/
def bitsReadsSpec : ChangeSpec := { name := "bitsReads", fn := fun _ => fun
  | [d1, d2] => { results := [.lit (.bool true)], args := [d1, d2] }
  | _ => none }
def bitsReadsRow : OpenClaim := { program := "ytnhfkiiknmnjgaa", sum := "85498cb0aa59b211591a390a9ec3fd943bc527963817ed27b43d1c6d96204220", func := "thermograph/thermographlaw03.BitsReads", spec := "bitsReads", apart := false }
def BitsReadsSaid : Prop := bitsReadsRow.holds Try.pinned (OpenSpec.ofChange bitsReadsSpec)

/-- ITS FALSE NEIGHBOUR: 'it returns false'. Refute it at one input. -/
def bitsReadsWrong : ChangeSpec := { name := "bitsReads", fn := fun _ => fun
  | [d1, d2] => { results := [.lit (.bool false)], args := [d1, d2] }
  | _ => none }
def BitsReadsWrongFalsely : Prop := bitsReadsRow.holds Try.pinned (OpenSpec.ofChange bitsReadsWrong)

/-- 'thermographlaw03.BitsWrites': WHATEVER THE INPUT: true; the input reads as it did. -/
def bitsWritesSpec : ChangeSpec := { name := "bitsWrites", fn := fun _ => fun
  | [d] => { results := [.lit (.bool true)], args := [d] }
  | _ => none }
def bitsWritesRow : OpenClaim := { program := "ytnhfkiiknmnjgaa", sum := "85498cb0aa59b211591a390a9ec3fd943bc527963817ed27b43d1c6d96204220", func := "thermograph/thermographlaw03.BitsWrites", spec := "bitsWrites", apart := false }
def BitsWritesSaid : Prop := bitsWritesRow.holds Try.pinned (OpenSpec.ofChange bitsWritesSpec)

/-- ITS FALSE NEIGHBOUR: 'it returns false'. Refute it at one input. -/
def bitsWritesWrong : ChangeSpec := { name := "bitsWrites", fn := fun _ => fun
  | [d] => { results := [.lit (.bool false)], args := [d] }
  | _ => none }
def BitsWritesWrongFalsely : Prop := bitsWritesRow.holds Try.pinned (OpenSpec.ofChange bitsWritesWrong)

/-- 'thermographlaw03.BitsLengths': WHATEVER THE INPUT: true; the input reads as it did. -/
def bitsLengthsSpec : ChangeSpec := { name := "bitsLengths", fn := fun _ => fun
  | [d] => { results := [.lit (.bool true)], args := [d] }
  | _ => none }
def bitsLengthsRow : OpenClaim := { program := "ytnhfkiiknmnjgaa", sum := "85498cb0aa59b211591a390a9ec3fd943bc527963817ed27b43d1c6d96204220", func := "thermograph/thermographlaw03.BitsLengths", spec := "bitsLengths", apart := false }
def BitsLengthsSaid : Prop := bitsLengthsRow.holds Try.pinned (OpenSpec.ofChange bitsLengthsSpec)

/-- ITS FALSE NEIGHBOUR: 'it returns false'. Refute it at one input. -/
def bitsLengthsWrong : ChangeSpec := { name := "bitsLengths", fn := fun _ => fun
  | [d] => { results := [.lit (.bool false)], args := [d] }
  | _ => none }
def BitsLengthsWrongFalsely : Prop := bitsLengthsRow.holds Try.pinned (OpenSpec.ofChange bitsLengthsWrong)

/-- 'thermographlaw03.BitsOne': WHATEVER THE INPUT: true; the input reads as it did. -/
def bitsOneSpec : ChangeSpec := { name := "bitsOne", fn := fun _ => fun
  | [d1, d2, d3, d4] => { results := [.lit (.bool true)], args := [d1, d2, d3, d4] }
  | _ => none }
def bitsOneRow : OpenClaim := { program := "ytnhfkiiknmnjgaa", sum := "85498cb0aa59b211591a390a9ec3fd943bc527963817ed27b43d1c6d96204220", func := "thermograph/thermographlaw03.BitsOne", spec := "bitsOne", apart := false }
def BitsOneSaid : Prop := bitsOneRow.holds Try.pinned (OpenSpec.ofChange bitsOneSpec)

/-- ITS FALSE NEIGHBOUR: 'it returns false'. Refute it at one input. -/
def bitsOneWrong : ChangeSpec := { name := "bitsOne", fn := fun _ => fun
  | [d1, d2, d3, d4] => { results := [.lit (.bool false)], args := [d1, d2, d3, d4] }
  | _ => none }
def BitsOneWrongFalsely : Prop := bitsOneRow.holds Try.pinned (OpenSpec.ofChange bitsOneWrong)

/-- 'thermographlaw03.BitsNumbers': WHATEVER THE INPUT: true; the input reads as it did. -/
def bitsNumbersSpec : ChangeSpec := { name := "bitsNumbers", fn := fun _ => fun
  | [d1, d2, d3] => { results := [.lit (.bool true)], args := [d1, d2, d3] }
  | _ => none }
def bitsNumbersRow : OpenClaim := { program := "ytnhfkiiknmnjgaa", sum := "85498cb0aa59b211591a390a9ec3fd943bc527963817ed27b43d1c6d96204220", func := "thermograph/thermographlaw03.BitsNumbers", spec := "bitsNumbers", apart := false }
def BitsNumbersSaid : Prop := bitsNumbersRow.holds Try.pinned (OpenSpec.ofChange bitsNumbersSpec)

/-- ITS FALSE NEIGHBOUR: 'it returns false'. Refute it at one input. -/
def bitsNumbersWrong : ChangeSpec := { name := "bitsNumbers", fn := fun _ => fun
  | [d1, d2, d3] => { results := [.lit (.bool false)], args := [d1, d2, d3] }
  | _ => none }
def BitsNumbersWrongFalsely : Prop := bitsNumbersRow.holds Try.pinned (OpenSpec.ofChange bitsNumbersWrong)

/-- 'thermographlaw03.BitsJoined': WHATEVER THE INPUT: true; the input reads as it did. -/
def bitsJoinedSpec : ChangeSpec := { name := "bitsJoined", fn := fun _ => fun
  | [d1, d2] => { results := [.lit (.bool true)], args := [d1, d2] }
  | _ => none }
def bitsJoinedRow : OpenClaim := { program := "ytnhfkiiknmnjgaa", sum := "85498cb0aa59b211591a390a9ec3fd943bc527963817ed27b43d1c6d96204220", func := "thermograph/thermographlaw03.BitsJoined", spec := "bitsJoined", apart := false }
def BitsJoinedSaid : Prop := bitsJoinedRow.holds Try.pinned (OpenSpec.ofChange bitsJoinedSpec)

/-- ITS FALSE NEIGHBOUR: 'it returns false'. Refute it at one input. -/
def bitsJoinedWrong : ChangeSpec := { name := "bitsJoined", fn := fun _ => fun
  | [d1, d2] => { results := [.lit (.bool false)], args := [d1, d2] }
  | _ => none }
def BitsJoinedWrongFalsely : Prop := bitsJoinedRow.holds Try.pinned (OpenSpec.ofChange bitsJoinedWrong)

/-- 'thermographlaw03.BitsBack': WHATEVER THE INPUT: true; the input reads as it did. -/
def bitsBackSpec : ChangeSpec := { name := "bitsBack", fn := fun _ => fun
  | [d] => { results := [.lit (.bool true)], args := [d] }
  | _ => none }
def bitsBackRow : OpenClaim := { program := "ytnhfkiiknmnjgaa", sum := "85498cb0aa59b211591a390a9ec3fd943bc527963817ed27b43d1c6d96204220", func := "thermograph/thermographlaw03.BitsBack", spec := "bitsBack", apart := false }
def BitsBackSaid : Prop := bitsBackRow.holds Try.pinned (OpenSpec.ofChange bitsBackSpec)

/-- ITS FALSE NEIGHBOUR: 'it returns false'. Refute it at one input. -/
def bitsBackWrong : ChangeSpec := { name := "bitsBack", fn := fun _ => fun
  | [d] => { results := [.lit (.bool false)], args := [d] }
  | _ => none }
def BitsBackWrongFalsely : Prop := bitsBackRow.holds Try.pinned (OpenSpec.ofChange bitsBackWrong)

/- THE SECOND FORM. 'bulk': how many values and letters a reading holds, each counted each time it is reached (what is shared counts as often as it is met; a slice's spare places count too). A statement '..UptoSaid' is the law's where the arguments, and the package variables that the reading takes, are together of bulk at most 1048576: NARROWER than '..Said'. Prove '..Said' where nothing that the law and all that it calls make is longer than what came in: it says more and counts as full. Else prove '..UptoSaid'. A law counts once. -/
mutual
def uptoBulk {H : Type} : DataW H → Nat
  | .lit (.string bytes) => bytes.length + 1
  | .lit _ => 1
  | .nil => 1
  | .ptr d => uptoBulk d + 1
  | .slice elems spare => uptoBulkAll elems + uptoBulkAll spare + 1
  | .agg parts => uptoBulkAll parts + 1
  | .iface _ d => uptoBulk d + 1
  | .map entries => uptoBulkEntries entries + 1
  | .held _ => 1
def uptoBulkAll {H : Type} : List (DataW H) → Nat
  | [] => 0
  | d :: r => uptoBulk d + uptoBulkAll r
def uptoBulkEntries {H : Type} : List (Lit × DataW H) → Nat
  | [] => 0
  | x :: r => uptoBulkEntry x + uptoBulkEntries r
def uptoBulkEntry {H : Type} : Lit × DataW H → Nat
  | (.string bytes, d) => bytes.length + uptoBulk d + 1
  | (_, d) => uptoBulk d + 1
 end
def uptoSmall : (H : Type) → List (DataW H) → Bool := fun _ ds => decide (uptoBulkAll ds ≤ 1048576)
def OpenSpec.upto (s : _root_.Go.ChangeSpec) : _root_.Go.OpenSpec := { _root_.Go.OpenSpec.ofChange s with cond := some uptoSmall }

/-- 'thermographlaw03.BitsZigs', WHERE WHAT IT READS IS OF BULK AT MOST 1048576: true; the input reads as it did. -/
def bitsZigsUptoRow : OpenClaim := { program := "ytnhfkiiknmnjgaa", sum := "85498cb0aa59b211591a390a9ec3fd943bc527963817ed27b43d1c6d96204220", func := "thermograph/thermographlaw03.BitsZigs", spec := "bitsZigs", apart := false, narrowed := true }
def BitsZigsUptoSaid : Prop := bitsZigsUptoRow.holds Try.pinned (OpenSpec.upto bitsZigsSpec)

/-- 'thermographlaw03.BitsReads', WHERE WHAT IT READS IS OF BULK AT MOST 1048576: true; the input reads as it did. -/
def bitsReadsUptoRow : OpenClaim := { program := "ytnhfkiiknmnjgaa", sum := "85498cb0aa59b211591a390a9ec3fd943bc527963817ed27b43d1c6d96204220", func := "thermograph/thermographlaw03.BitsReads", spec := "bitsReads", apart := false, narrowed := true }
def BitsReadsUptoSaid : Prop := bitsReadsUptoRow.holds Try.pinned (OpenSpec.upto bitsReadsSpec)

/-- 'thermographlaw03.BitsWrites', WHERE WHAT IT READS IS OF BULK AT MOST 1048576: true; the input reads as it did. -/
def bitsWritesUptoRow : OpenClaim := { program := "ytnhfkiiknmnjgaa", sum := "85498cb0aa59b211591a390a9ec3fd943bc527963817ed27b43d1c6d96204220", func := "thermograph/thermographlaw03.BitsWrites", spec := "bitsWrites", apart := false, narrowed := true }
def BitsWritesUptoSaid : Prop := bitsWritesUptoRow.holds Try.pinned (OpenSpec.upto bitsWritesSpec)

/-- 'thermographlaw03.BitsLengths', WHERE WHAT IT READS IS OF BULK AT MOST 1048576: true; the input reads as it did. -/
def bitsLengthsUptoRow : OpenClaim := { program := "ytnhfkiiknmnjgaa", sum := "85498cb0aa59b211591a390a9ec3fd943bc527963817ed27b43d1c6d96204220", func := "thermograph/thermographlaw03.BitsLengths", spec := "bitsLengths", apart := false, narrowed := true }
def BitsLengthsUptoSaid : Prop := bitsLengthsUptoRow.holds Try.pinned (OpenSpec.upto bitsLengthsSpec)

/-- 'thermographlaw03.BitsOne', WHERE WHAT IT READS IS OF BULK AT MOST 1048576: true; the input reads as it did. -/
def bitsOneUptoRow : OpenClaim := { program := "ytnhfkiiknmnjgaa", sum := "85498cb0aa59b211591a390a9ec3fd943bc527963817ed27b43d1c6d96204220", func := "thermograph/thermographlaw03.BitsOne", spec := "bitsOne", apart := false, narrowed := true }
def BitsOneUptoSaid : Prop := bitsOneUptoRow.holds Try.pinned (OpenSpec.upto bitsOneSpec)

/-- 'thermographlaw03.BitsNumbers', WHERE WHAT IT READS IS OF BULK AT MOST 1048576: true; the input reads as it did. -/
def bitsNumbersUptoRow : OpenClaim := { program := "ytnhfkiiknmnjgaa", sum := "85498cb0aa59b211591a390a9ec3fd943bc527963817ed27b43d1c6d96204220", func := "thermograph/thermographlaw03.BitsNumbers", spec := "bitsNumbers", apart := false, narrowed := true }
def BitsNumbersUptoSaid : Prop := bitsNumbersUptoRow.holds Try.pinned (OpenSpec.upto bitsNumbersSpec)

/-- 'thermographlaw03.BitsJoined', WHERE WHAT IT READS IS OF BULK AT MOST 1048576: true; the input reads as it did. -/
def bitsJoinedUptoRow : OpenClaim := { program := "ytnhfkiiknmnjgaa", sum := "85498cb0aa59b211591a390a9ec3fd943bc527963817ed27b43d1c6d96204220", func := "thermograph/thermographlaw03.BitsJoined", spec := "bitsJoined", apart := false, narrowed := true }
def BitsJoinedUptoSaid : Prop := bitsJoinedUptoRow.holds Try.pinned (OpenSpec.upto bitsJoinedSpec)

/-- 'thermographlaw03.BitsBack', WHERE WHAT IT READS IS OF BULK AT MOST 1048576: true; the input reads as it did. -/
def bitsBackUptoRow : OpenClaim := { program := "ytnhfkiiknmnjgaa", sum := "85498cb0aa59b211591a390a9ec3fd943bc527963817ed27b43d1c6d96204220", func := "thermograph/thermographlaw03.BitsBack", spec := "bitsBack", apart := false, narrowed := true }
def BitsBackUptoSaid : Prop := bitsBackUptoRow.holds Try.pinned (OpenSpec.upto bitsBackSpec)

end Rows
end Go.Proofs.Ytnhfkiiknmnjgaa
