/-
  No cell of these rows narrows 'for every input' (looked for: loops, veiled, ifaces, maps, wideKeys, modest, calm, conditions, laid).
  DERIVED. THE GIVEN ROWS OF THIS SEAT. 8 by the template 'for every input the law returns true; each argument reads behind the call as it read before'; 0 by the template 'total and deterministic' (their statements: YtmdebnfjhnhcjaaTotals.lean).
  GIVEN WITH THE SEED: the statements are not yours to turn. If you find one false, say at which input.
  Laid BY PROGRAM, IN A SANDBOX (cutbox-rows.mjs): the forced cells as the released guide's own fill.sh prints them over the translation 251c6ece7f819b8f… (all of the seat's roots in one cut). By AI agents, Wed Nov 11 2026. No macro, syntax, notation, axiom, sorry.
-/
import Derived.Test.YtmdebnfjhnhcjaaChecked
import GoSem.Claim
import GoSem.ClaimJoined
import GoSem.ClaimMapViews
import Derived.JoinedTies
import Derived.KernelRfl
namespace Go.Proofs.Ytmdebnfjhnhcjaa
/- THE CELL 'sum', in the pinned program and in every row, IS THE sha256 OF THE DUMP (.gsa) THAT YtmdebnfjhnhcjaaProg.lean LOADS. Nothing in Lean hashes anything: it is a label: what it is worth is what the hold of that sum in a sandbox is worth. -/
noncomputable def Try.pinned : Pinned := { name := "ytmdebnfjhnhcjaa", sum := "251c6ece7f819b8f19f353b986847624c61f8943f8f65cb514ad53fcd55f1f24", checked := Try.checked }
namespace Rows
def none {H : Type} : Left H := { results := [], args := [] }

/-- 'thermographlaw14.PlacementEven': WHATEVER THE INPUT: true; the input reads as it did. -/
def placementEvenSpec : ChangeSpec := { name := "placementEven", fn := fun _ => fun
  | [d1, d2] => { results := [.lit (.bool true)], args := [d1, d2] }
  | _ => none }
def placementEvenRow : OpenClaim := { program := "ytmdebnfjhnhcjaa", sum := "251c6ece7f819b8f19f353b986847624c61f8943f8f65cb514ad53fcd55f1f24", func := "thermograph/thermographlaw14.PlacementEven", spec := "placementEven", inPlace := ["slices.overlaps[thermograph/api.Owner]"], unfollowed := true, recurses := true, apart := false }
def PlacementEvenSaid : Prop := placementEvenRow.holds Try.pinned (OpenSpec.ofChange placementEvenSpec)

/-- ITS FALSE NEIGHBOUR: 'it returns false'. Refute it at one input. -/
def placementEvenWrong : ChangeSpec := { name := "placementEven", fn := fun _ => fun
  | [d1, d2] => { results := [.lit (.bool false)], args := [d1, d2] }
  | _ => none }
def PlacementEvenWrongFalsely : Prop := placementEvenRow.holds Try.pinned (OpenSpec.ofChange placementEvenWrong)

/-- 'thermographlaw14.PlacementAdds': WHATEVER THE INPUT: true; the input reads as it did. -/
def placementAddsSpec : ChangeSpec := { name := "placementAdds", fn := fun _ => fun
  | [d1, d2, d3] => { results := [.lit (.bool true)], args := [d1, d2, d3] }
  | _ => none }
def placementAddsRow : OpenClaim := { program := "ytmdebnfjhnhcjaa", sum := "251c6ece7f819b8f19f353b986847624c61f8943f8f65cb514ad53fcd55f1f24", func := "thermograph/thermographlaw14.PlacementAdds", spec := "placementAdds", inPlace := ["slices.overlaps[thermograph/api.Owner]"], unfollowed := true, recurses := true, apart := false }
def PlacementAddsSaid : Prop := placementAddsRow.holds Try.pinned (OpenSpec.ofChange placementAddsSpec)

/-- ITS FALSE NEIGHBOUR: 'it returns false'. Refute it at one input. -/
def placementAddsWrong : ChangeSpec := { name := "placementAdds", fn := fun _ => fun
  | [d1, d2, d3] => { results := [.lit (.bool false)], args := [d1, d2, d3] }
  | _ => none }
def PlacementAddsWrongFalsely : Prop := placementAddsRow.holds Try.pinned (OpenSpec.ofChange placementAddsWrong)

/-- 'thermographlaw14.PlacementSources': WHATEVER THE INPUT: true; the input reads as it did. -/
def placementSourcesSpec : ChangeSpec := { name := "placementSources", fn := fun _ => fun
  | [d1, d2] => { results := [.lit (.bool true)], args := [d1, d2] }
  | _ => none }
def placementSourcesRow : OpenClaim := { program := "ytmdebnfjhnhcjaa", sum := "251c6ece7f819b8f19f353b986847624c61f8943f8f65cb514ad53fcd55f1f24", func := "thermograph/thermographlaw14.PlacementSources", spec := "placementSources", inPlace := ["slices.overlaps[thermograph/api.Owner]"], unfollowed := true, recurses := true, apart := false }
def PlacementSourcesSaid : Prop := placementSourcesRow.holds Try.pinned (OpenSpec.ofChange placementSourcesSpec)

/-- ITS FALSE NEIGHBOUR: 'it returns false'. Refute it at one input. -/
def placementSourcesWrong : ChangeSpec := { name := "placementSources", fn := fun _ => fun
  | [d1, d2] => { results := [.lit (.bool false)], args := [d1, d2] }
  | _ => none }
def PlacementSourcesWrongFalsely : Prop := placementSourcesRow.holds Try.pinned (OpenSpec.ofChange placementSourcesWrong)

/-- 'thermographlaw14.PlacementChecks': WHATEVER THE INPUT: true; the input reads as it did. -/
def placementChecksSpec : ChangeSpec := { name := "placementChecks", fn := fun _ => fun
  | [d1, d2] => { results := [.lit (.bool true)], args := [d1, d2] }
  | _ => none }
def placementChecksRow : OpenClaim := { program := "ytmdebnfjhnhcjaa", sum := "251c6ece7f819b8f19f353b986847624c61f8943f8f65cb514ad53fcd55f1f24", func := "thermograph/thermographlaw14.PlacementChecks", spec := "placementChecks", inPlace := ["slices.overlaps[thermograph/api.Owner]"], unfollowed := true, recurses := true, apart := false }
def PlacementChecksSaid : Prop := placementChecksRow.holds Try.pinned (OpenSpec.ofChange placementChecksSpec)

/-- ITS FALSE NEIGHBOUR: 'it returns false'. Refute it at one input. -/
def placementChecksWrong : ChangeSpec := { name := "placementChecks", fn := fun _ => fun
  | [d1, d2] => { results := [.lit (.bool false)], args := [d1, d2] }
  | _ => none }
def PlacementChecksWrongFalsely : Prop := placementChecksRow.holds Try.pinned (OpenSpec.ofChange placementChecksWrong)

/-- 'thermographlaw14.PlacementRefuses': WHATEVER THE INPUT: true; the input reads as it did. -/
def placementRefusesSpec : ChangeSpec := { name := "placementRefuses", fn := fun _ => fun
  | [d1, d2, d3, d4] => { results := [.lit (.bool true)], args := [d1, d2, d3, d4] }
  | _ => none }
def placementRefusesRow : OpenClaim := { program := "ytmdebnfjhnhcjaa", sum := "251c6ece7f819b8f19f353b986847624c61f8943f8f65cb514ad53fcd55f1f24", func := "thermograph/thermographlaw14.PlacementRefuses", spec := "placementRefuses", inPlace := ["slices.overlaps[thermograph/api.Owner]"], unfollowed := true, recurses := true, apart := false }
def PlacementRefusesSaid : Prop := placementRefusesRow.holds Try.pinned (OpenSpec.ofChange placementRefusesSpec)

/-- ITS FALSE NEIGHBOUR: 'it returns false'. Refute it at one input. -/
def placementRefusesWrong : ChangeSpec := { name := "placementRefuses", fn := fun _ => fun
  | [d1, d2, d3, d4] => { results := [.lit (.bool false)], args := [d1, d2, d3, d4] }
  | _ => none }
def PlacementRefusesWrongFalsely : Prop := placementRefusesRow.holds Try.pinned (OpenSpec.ofChange placementRefusesWrong)

/-- 'thermographlaw14.PlacementScript': WHATEVER THE INPUT: true; the input reads as it did. -/
def placementScriptSpec : ChangeSpec := { name := "placementScript", fn := fun _ => fun
  | [d1, d2, d3] => { results := [.lit (.bool true)], args := [d1, d2, d3] }
  | _ => none }
def placementScriptRow : OpenClaim := { program := "ytmdebnfjhnhcjaa", sum := "251c6ece7f819b8f19f353b986847624c61f8943f8f65cb514ad53fcd55f1f24", func := "thermograph/thermographlaw14.PlacementScript", spec := "placementScript", inPlace := ["slices.overlaps[thermograph/api.Owner]"], unfollowed := true, recurses := true, apart := false }
def PlacementScriptSaid : Prop := placementScriptRow.holds Try.pinned (OpenSpec.ofChange placementScriptSpec)

/-- ITS FALSE NEIGHBOUR: 'it returns false'. Refute it at one input. -/
def placementScriptWrong : ChangeSpec := { name := "placementScript", fn := fun _ => fun
  | [d1, d2, d3] => { results := [.lit (.bool false)], args := [d1, d2, d3] }
  | _ => none }
def PlacementScriptWrongFalsely : Prop := placementScriptRow.holds Try.pinned (OpenSpec.ofChange placementScriptWrong)

/-- 'thermographlaw14.PlacementRight': WHATEVER THE INPUT: true; the input reads as it did. -/
def placementRightSpec : ChangeSpec := { name := "placementRight", fn := fun _ => fun
  | [d1, d2, d3] => { results := [.lit (.bool true)], args := [d1, d2, d3] }
  | _ => none }
def placementRightRow : OpenClaim := { program := "ytmdebnfjhnhcjaa", sum := "251c6ece7f819b8f19f353b986847624c61f8943f8f65cb514ad53fcd55f1f24", func := "thermograph/thermographlaw14.PlacementRight", spec := "placementRight", inPlace := ["slices.overlaps[thermograph/api.Owner]"], unfollowed := true, recurses := true, apart := false }
def PlacementRightSaid : Prop := placementRightRow.holds Try.pinned (OpenSpec.ofChange placementRightSpec)

/-- ITS FALSE NEIGHBOUR: 'it returns false'. Refute it at one input. -/
def placementRightWrong : ChangeSpec := { name := "placementRight", fn := fun _ => fun
  | [d1, d2, d3] => { results := [.lit (.bool false)], args := [d1, d2, d3] }
  | _ => none }
def PlacementRightWrongFalsely : Prop := placementRightRow.holds Try.pinned (OpenSpec.ofChange placementRightWrong)

/-- 'thermographlaw14.PlacementSettles': WHATEVER THE INPUT: true; the input reads as it did. -/
def placementSettlesSpec : ChangeSpec := { name := "placementSettles", fn := fun _ => fun
  | [d1, d2, d3] => { results := [.lit (.bool true)], args := [d1, d2, d3] }
  | _ => none }
def placementSettlesRow : OpenClaim := { program := "ytmdebnfjhnhcjaa", sum := "251c6ece7f819b8f19f353b986847624c61f8943f8f65cb514ad53fcd55f1f24", func := "thermograph/thermographlaw14.PlacementSettles", spec := "placementSettles", inPlace := ["slices.overlaps[thermograph/api.Owner]"], unfollowed := true, recurses := true, apart := false }
def PlacementSettlesSaid : Prop := placementSettlesRow.holds Try.pinned (OpenSpec.ofChange placementSettlesSpec)

/-- ITS FALSE NEIGHBOUR: 'it returns false'. Refute it at one input. -/
def placementSettlesWrong : ChangeSpec := { name := "placementSettles", fn := fun _ => fun
  | [d1, d2, d3] => { results := [.lit (.bool false)], args := [d1, d2, d3] }
  | _ => none }
def PlacementSettlesWrongFalsely : Prop := placementSettlesRow.holds Try.pinned (OpenSpec.ofChange placementSettlesWrong)

/- THE SECOND FORM. 'bulk': how many values and letters a reading holds, each counted each time it is reached (what is shared counts as often as it is met; a slice's spare places count too). A statement '..UptoSaid' is the law's where the arguments, and the package variables that the reading takes, are together of bulk at most 1048576: NARROWER than '..Said'. Prove '..Said' where nothing that the law and all that it calls make is longer than what came in: it says more and counts as full. Else prove '..UptoSaid'. A law counts once. -/
mutual
def uptoBulk {H : Type} : DataW H → Nat
  | .lit (.string bytes) => bytes.length + 1
  | .lit _ => 1
  | .nil => 1
  | .ptr d => uptoBulk d + 1
  | .slice elems spare => uptoBulkAll elems + uptoBulkAll spare + 1
  | .agg parts => uptoBulkAll parts + 1
  | .iface _ d => uptoBulk d + 1
  | .map entries => uptoBulkEntries entries + 1
  | .held _ => 1
def uptoBulkAll {H : Type} : List (DataW H) → Nat
  | [] => 0
  | d :: r => uptoBulk d + uptoBulkAll r
def uptoBulkEntries {H : Type} : List (Lit × DataW H) → Nat
  | [] => 0
  | x :: r => uptoBulkEntry x + uptoBulkEntries r
def uptoBulkEntry {H : Type} : Lit × DataW H → Nat
  | (.string bytes, d) => bytes.length + uptoBulk d + 1
  | (_, d) => uptoBulk d + 1
 end
def uptoSmall : (H : Type) → List (DataW H) → Bool := fun _ ds => decide (uptoBulkAll ds ≤ 1048576)
def OpenSpec.upto (s : _root_.Go.ChangeSpec) : _root_.Go.OpenSpec := { _root_.Go.OpenSpec.ofChange s with cond := some uptoSmall }

/-- 'thermographlaw14.PlacementEven', WHERE WHAT IT READS IS OF BULK AT MOST 1048576: true; the input reads as it did. -/
def placementEvenUptoRow : OpenClaim := { program := "ytmdebnfjhnhcjaa", sum := "251c6ece7f819b8f19f353b986847624c61f8943f8f65cb514ad53fcd55f1f24", func := "thermograph/thermographlaw14.PlacementEven", spec := "placementEven", inPlace := ["slices.overlaps[thermograph/api.Owner]"], unfollowed := true, recurses := true, apart := false, narrowed := true }
def PlacementEvenUptoSaid : Prop := placementEvenUptoRow.holds Try.pinned (OpenSpec.upto placementEvenSpec)

/-- 'thermographlaw14.PlacementAdds', WHERE WHAT IT READS IS OF BULK AT MOST 1048576: true; the input reads as it did. -/
def placementAddsUptoRow : OpenClaim := { program := "ytmdebnfjhnhcjaa", sum := "251c6ece7f819b8f19f353b986847624c61f8943f8f65cb514ad53fcd55f1f24", func := "thermograph/thermographlaw14.PlacementAdds", spec := "placementAdds", inPlace := ["slices.overlaps[thermograph/api.Owner]"], unfollowed := true, recurses := true, apart := false, narrowed := true }
def PlacementAddsUptoSaid : Prop := placementAddsUptoRow.holds Try.pinned (OpenSpec.upto placementAddsSpec)

/-- 'thermographlaw14.PlacementSources', WHERE WHAT IT READS IS OF BULK AT MOST 1048576: true; the input reads as it did. -/
def placementSourcesUptoRow : OpenClaim := { program := "ytmdebnfjhnhcjaa", sum := "251c6ece7f819b8f19f353b986847624c61f8943f8f65cb514ad53fcd55f1f24", func := "thermograph/thermographlaw14.PlacementSources", spec := "placementSources", inPlace := ["slices.overlaps[thermograph/api.Owner]"], unfollowed := true, recurses := true, apart := false, narrowed := true }
def PlacementSourcesUptoSaid : Prop := placementSourcesUptoRow.holds Try.pinned (OpenSpec.upto placementSourcesSpec)

/-- 'thermographlaw14.PlacementChecks', WHERE WHAT IT READS IS OF BULK AT MOST 1048576: true; the input reads as it did. -/
def placementChecksUptoRow : OpenClaim := { program := "ytmdebnfjhnhcjaa", sum := "251c6ece7f819b8f19f353b986847624c61f8943f8f65cb514ad53fcd55f1f24", func := "thermograph/thermographlaw14.PlacementChecks", spec := "placementChecks", inPlace := ["slices.overlaps[thermograph/api.Owner]"], unfollowed := true, recurses := true, apart := false, narrowed := true }
def PlacementChecksUptoSaid : Prop := placementChecksUptoRow.holds Try.pinned (OpenSpec.upto placementChecksSpec)

/-- 'thermographlaw14.PlacementRefuses', WHERE WHAT IT READS IS OF BULK AT MOST 1048576: true; the input reads as it did. -/
def placementRefusesUptoRow : OpenClaim := { program := "ytmdebnfjhnhcjaa", sum := "251c6ece7f819b8f19f353b986847624c61f8943f8f65cb514ad53fcd55f1f24", func := "thermograph/thermographlaw14.PlacementRefuses", spec := "placementRefuses", inPlace := ["slices.overlaps[thermograph/api.Owner]"], unfollowed := true, recurses := true, apart := false, narrowed := true }
def PlacementRefusesUptoSaid : Prop := placementRefusesUptoRow.holds Try.pinned (OpenSpec.upto placementRefusesSpec)

/-- 'thermographlaw14.PlacementScript', WHERE WHAT IT READS IS OF BULK AT MOST 1048576: true; the input reads as it did. -/
def placementScriptUptoRow : OpenClaim := { program := "ytmdebnfjhnhcjaa", sum := "251c6ece7f819b8f19f353b986847624c61f8943f8f65cb514ad53fcd55f1f24", func := "thermograph/thermographlaw14.PlacementScript", spec := "placementScript", inPlace := ["slices.overlaps[thermograph/api.Owner]"], unfollowed := true, recurses := true, apart := false, narrowed := true }
def PlacementScriptUptoSaid : Prop := placementScriptUptoRow.holds Try.pinned (OpenSpec.upto placementScriptSpec)

/-- 'thermographlaw14.PlacementRight', WHERE WHAT IT READS IS OF BULK AT MOST 1048576: true; the input reads as it did. -/
def placementRightUptoRow : OpenClaim := { program := "ytmdebnfjhnhcjaa", sum := "251c6ece7f819b8f19f353b986847624c61f8943f8f65cb514ad53fcd55f1f24", func := "thermograph/thermographlaw14.PlacementRight", spec := "placementRight", inPlace := ["slices.overlaps[thermograph/api.Owner]"], unfollowed := true, recurses := true, apart := false, narrowed := true }
def PlacementRightUptoSaid : Prop := placementRightUptoRow.holds Try.pinned (OpenSpec.upto placementRightSpec)

/-- 'thermographlaw14.PlacementSettles', WHERE WHAT IT READS IS OF BULK AT MOST 1048576: true; the input reads as it did. -/
def placementSettlesUptoRow : OpenClaim := { program := "ytmdebnfjhnhcjaa", sum := "251c6ece7f819b8f19f353b986847624c61f8943f8f65cb514ad53fcd55f1f24", func := "thermograph/thermographlaw14.PlacementSettles", spec := "placementSettles", inPlace := ["slices.overlaps[thermograph/api.Owner]"], unfollowed := true, recurses := true, apart := false, narrowed := true }
def PlacementSettlesUptoSaid : Prop := placementSettlesUptoRow.holds Try.pinned (OpenSpec.upto placementSettlesSpec)

end Rows
end Go.Proofs.Ytmdebnfjhnhcjaa
