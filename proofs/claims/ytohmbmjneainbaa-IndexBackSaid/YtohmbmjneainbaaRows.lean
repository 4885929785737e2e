/-
  No cell of these rows narrows 'for every input' (looked for: loops, veiled, ifaces, maps, wideKeys, modest, calm, conditions, laid).
  DERIVED. THE GIVEN ROWS OF THIS SEAT. 5 by the template 'for every input the law returns true; each argument reads behind the call as it read before'; 0 by the template 'total and deterministic' (their statements: YtohmbmjneainbaaTotals.lean).
  GIVEN WITH THE SEED: the statements are not yours to turn. If you find one false, say at which input.
  Laid BY PROGRAM, IN A SANDBOX (cutbox-rows.mjs): the forced cells as the released guide's own fill.sh prints them over the translation 1d87e6d7ef9a5c11… (all of the seat's roots in one cut). By AI agents, Wed Nov 11 2026. No macro, syntax, notation, axiom, sorry.
-/
import Derived.Test.YtohmbmjneainbaaChecked
import GoSem.Claim
import GoSem.ClaimJoined
import GoSem.ClaimMapViews
import Derived.JoinedTies
import Derived.KernelRfl
namespace Go.Proofs.Ytohmbmjneainbaa
/- THE CELL 'sum', in the pinned program and in every row, IS THE sha256 OF THE DUMP (.gsa) THAT YtohmbmjneainbaaProg.lean LOADS. Nothing in Lean hashes anything: it is a label: what it is worth is what the hold of that sum in a sandbox is worth. -/
noncomputable def Try.pinned : Pinned := { name := "ytohmbmjneainbaa", sum := "1d87e6d7ef9a5c113928f56ffe4eff57df839674555119130c7150e2775ce0ec", checked := Try.checked }
namespace Rows
def none {H : Type} : Left H := { results := [], args := [] }

/-- 'thermographlaw08.IndexJoined': WHATEVER THE INPUT: true; the input reads as it did. -/
def indexJoinedSpec : ChangeSpec := { name := "indexJoined", fn := fun _ => fun
  | [d1, d2] => { results := [.lit (.bool true)], args := [d1, d2] }
  | _ => none }
def indexJoinedRow : OpenClaim := { program := "ytohmbmjneainbaa", sum := "1d87e6d7ef9a5c113928f56ffe4eff57df839674555119130c7150e2775ce0ec", func := "thermograph/thermographlaw08.IndexJoined", spec := "indexJoined", apart := false }
def IndexJoinedSaid : Prop := indexJoinedRow.holds Try.pinned (OpenSpec.ofChange indexJoinedSpec)

/-- ITS FALSE NEIGHBOUR: 'it returns false'. Refute it at one input. -/
def indexJoinedWrong : ChangeSpec := { name := "indexJoined", fn := fun _ => fun
  | [d1, d2] => { results := [.lit (.bool false)], args := [d1, d2] }
  | _ => none }
def IndexJoinedWrongFalsely : Prop := indexJoinedRow.holds Try.pinned (OpenSpec.ofChange indexJoinedWrong)

/-- 'thermographlaw08.IndexEncodes': WHATEVER THE INPUT: true; the input reads as it did. -/
def indexEncodesSpec : ChangeSpec := { name := "indexEncodes", fn := fun _ => fun
  | [d] => { results := [.lit (.bool true)], args := [d] }
  | _ => none }
def indexEncodesRow : OpenClaim := { program := "ytohmbmjneainbaa", sum := "1d87e6d7ef9a5c113928f56ffe4eff57df839674555119130c7150e2775ce0ec", func := "thermograph/thermographlaw08.IndexEncodes", spec := "indexEncodes", apart := false }
def IndexEncodesSaid : Prop := indexEncodesRow.holds Try.pinned (OpenSpec.ofChange indexEncodesSpec)

/-- ITS FALSE NEIGHBOUR: 'it returns false'. Refute it at one input. -/
def indexEncodesWrong : ChangeSpec := { name := "indexEncodes", fn := fun _ => fun
  | [d] => { results := [.lit (.bool false)], args := [d] }
  | _ => none }
def IndexEncodesWrongFalsely : Prop := indexEncodesRow.holds Try.pinned (OpenSpec.ofChange indexEncodesWrong)

/-- 'thermographlaw08.IndexLists': WHATEVER THE INPUT: true; the input reads as it did. -/
def indexListsSpec : ChangeSpec := { name := "indexLists", fn := fun _ => fun
  | [d] => { results := [.lit (.bool true)], args := [d] }
  | _ => none }
def indexListsRow : OpenClaim := { program := "ytohmbmjneainbaa", sum := "1d87e6d7ef9a5c113928f56ffe4eff57df839674555119130c7150e2775ce0ec", func := "thermograph/thermographlaw08.IndexLists", spec := "indexLists", apart := false }
def IndexListsSaid : Prop := indexListsRow.holds Try.pinned (OpenSpec.ofChange indexListsSpec)

/-- ITS FALSE NEIGHBOUR: 'it returns false'. Refute it at one input. -/
def indexListsWrong : ChangeSpec := { name := "indexLists", fn := fun _ => fun
  | [d] => { results := [.lit (.bool false)], args := [d] }
  | _ => none }
def IndexListsWrongFalsely : Prop := indexListsRow.holds Try.pinned (OpenSpec.ofChange indexListsWrong)

/-- 'thermographlaw08.IndexShort': WHATEVER THE INPUT: true; the input reads as it did. -/
def indexShortSpec : ChangeSpec := { name := "indexShort", fn := fun _ => fun
  | [d1, d2] => { results := [.lit (.bool true)], args := [d1, d2] }
  | _ => none }
def indexShortRow : OpenClaim := { program := "ytohmbmjneainbaa", sum := "1d87e6d7ef9a5c113928f56ffe4eff57df839674555119130c7150e2775ce0ec", func := "thermograph/thermographlaw08.IndexShort", spec := "indexShort", apart := false }
def IndexShortSaid : Prop := indexShortRow.holds Try.pinned (OpenSpec.ofChange indexShortSpec)

/-- ITS FALSE NEIGHBOUR: 'it returns false'. Refute it at one input. -/
def indexShortWrong : ChangeSpec := { name := "indexShort", fn := fun _ => fun
  | [d1, d2] => { results := [.lit (.bool false)], args := [d1, d2] }
  | _ => none }
def IndexShortWrongFalsely : Prop := indexShortRow.holds Try.pinned (OpenSpec.ofChange indexShortWrong)

/-- 'thermographlaw08.IndexBack': WHATEVER THE INPUT: true; the input reads as it did. -/
def indexBackSpec : ChangeSpec := { name := "indexBack", fn := fun _ => fun
  | [d1, d2] => { results := [.lit (.bool true)], args := [d1, d2] }
  | _ => none }
def indexBackRow : OpenClaim := { program := "ytohmbmjneainbaa", sum := "1d87e6d7ef9a5c113928f56ffe4eff57df839674555119130c7150e2775ce0ec", func := "thermograph/thermographlaw08.IndexBack", spec := "indexBack", apart := false }
def IndexBackSaid : Prop := indexBackRow.holds Try.pinned (OpenSpec.ofChange indexBackSpec)

/-- ITS FALSE NEIGHBOUR: 'it returns false'. Refute it at one input. -/
def indexBackWrong : ChangeSpec := { name := "indexBack", fn := fun _ => fun
  | [d1, d2] => { results := [.lit (.bool false)], args := [d1, d2] }
  | _ => none }
def IndexBackWrongFalsely : Prop := indexBackRow.holds Try.pinned (OpenSpec.ofChange indexBackWrong)

/- THE SECOND FORM. 'bulk': how many values and letters a reading holds, each counted each time it is reached (what is shared counts as often as it is met; a slice's spare places count too). A statement '..UptoSaid' is the law's where the arguments, and the package variables that the reading takes, are together of bulk at most 1048576: NARROWER than '..Said'. Prove '..Said' where nothing that the law and all that it calls make is longer than what came in: it says more and counts as full. Else prove '..UptoSaid'. A law counts once. -/
mutual
def uptoBulk {H : Type} : DataW H → Nat
  | .lit (.string bytes) => bytes.length + 1
  | .lit _ => 1
  | .nil => 1
  | .ptr d => uptoBulk d + 1
  | .slice elems spare => uptoBulkAll elems + uptoBulkAll spare + 1
  | .agg parts => uptoBulkAll parts + 1
  | .iface _ d => uptoBulk d + 1
  | .map entries => uptoBulkEntries entries + 1
  | .held _ => 1
def uptoBulkAll {H : Type} : List (DataW H) → Nat
  | [] => 0
  | d :: r => uptoBulk d + uptoBulkAll r
def uptoBulkEntries {H : Type} : List (Lit × DataW H) → Nat
  | [] => 0
  | x :: r => uptoBulkEntry x + uptoBulkEntries r
def uptoBulkEntry {H : Type} : Lit × DataW H → Nat
  | (.string bytes, d) => bytes.length + uptoBulk d + 1
  | (_, d) => uptoBulk d + 1
 end
def uptoSmall : (H : Type) → List (DataW H) → Bool := fun _ ds => decide (uptoBulkAll ds ≤ 1048576)
def OpenSpec.upto (s : _root_.Go.ChangeSpec) : _root_.Go.OpenSpec := { _root_.Go.OpenSpec.ofChange s with cond := some uptoSmall }

/-- 'thermographlaw08.IndexJoined', WHERE WHAT IT READS IS OF BULK AT MOST 1048576: true; the input reads as it did. -/
def indexJoinedUptoRow : OpenClaim := { program := "ytohmbmjneainbaa", sum := "1d87e6d7ef9a5c113928f56ffe4eff57df839674555119130c7150e2775ce0ec", func := "thermograph/thermographlaw08.IndexJoined", spec := "indexJoined", apart := false, narrowed := true }
def IndexJoinedUptoSaid : Prop := indexJoinedUptoRow.holds Try.pinned (OpenSpec.upto indexJoinedSpec)

/-- 'thermographlaw08.IndexEncodes', WHERE WHAT IT READS IS OF BULK AT MOST 1048576: true; the input reads as it did. -/
def indexEncodesUptoRow : OpenClaim := { program := "ytohmbmjneainbaa", sum := "1d87e6d7ef9a5c113928f56ffe4eff57df839674555119130c7150e2775ce0ec", func := "thermograph/thermographlaw08.IndexEncodes", spec := "indexEncodes", apart := false, narrowed := true }
def IndexEncodesUptoSaid : Prop := indexEncodesUptoRow.holds Try.pinned (OpenSpec.upto indexEncodesSpec)

/-- 'thermographlaw08.IndexLists', WHERE WHAT IT READS IS OF BULK AT MOST 1048576: true; the input reads as it did. -/
def indexListsUptoRow : OpenClaim := { program := "ytohmbmjneainbaa", sum := "1d87e6d7ef9a5c113928f56ffe4eff57df839674555119130c7150e2775ce0ec", func := "thermograph/thermographlaw08.IndexLists", spec := "indexLists", apart := false, narrowed := true }
def IndexListsUptoSaid : Prop := indexListsUptoRow.holds Try.pinned (OpenSpec.upto indexListsSpec)

/-- 'thermographlaw08.IndexShort', WHERE WHAT IT READS IS OF BULK AT MOST 1048576: true; the input reads as it did. -/
def indexShortUptoRow : OpenClaim := { program := "ytohmbmjneainbaa", sum := "1d87e6d7ef9a5c113928f56ffe4eff57df839674555119130c7150e2775ce0ec", func := "thermograph/thermographlaw08.IndexShort", spec := "indexShort", apart := false, narrowed := true }
def IndexShortUptoSaid : Prop := indexShortUptoRow.holds Try.pinned (OpenSpec.upto indexShortSpec)

/-- 'thermographlaw08.IndexBack', WHERE WHAT IT READS IS OF BULK AT MOST 1048576: true; the input reads as it did. -/
def indexBackUptoRow : OpenClaim := { program := "ytohmbmjneainbaa", sum := "1d87e6d7ef9a5c113928f56ffe4eff57df839674555119130c7150e2775ce0ec", func := "thermograph/thermographlaw08.IndexBack", spec := "indexBack", apart := false, narrowed := true }
def IndexBackUptoSaid : Prop := indexBackUptoRow.holds Try.pinned (OpenSpec.upto indexBackSpec)

end Rows
end Go.Proofs.Ytohmbmjneainbaa
