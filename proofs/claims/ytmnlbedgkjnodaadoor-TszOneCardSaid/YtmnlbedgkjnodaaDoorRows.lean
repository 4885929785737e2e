/-
  NARROWER THAN 'FOR EVERY INPUT', by the rows' own cells (each row's printed sentence says how): TszMost: laid · TszEven: laid · TszEncodes: laid · TszSums: laid · TszFirst: laid · TszDecodes: laid · TszBack: laid · TszOne: laid.
  DERIVED. THE GIVEN ROWS OF THIS SEAT. 8 by the template 'for every input the law returns true; each argument reads behind the call as it read before'; 0 by the template 'total and deterministic' (their statements: YtmnlbedgkjnodaaDoorTotals.lean).
  GIVEN WITH THE SEED: the statements are not yours to turn. If you find one false, say at which input.
  Laid BY PROGRAM, IN A SANDBOX (cutbox-rows.mjs): the forced cells as the released guide's own fill.sh prints them over the translation e501379185d13c3d… (all of the seat's roots in one cut). By AI agents, Wed Nov 11 2026. No macro, syntax, notation, axiom, sorry.
-/
import Derived.Test.YtmnlbedgkjnodaaDoorChecked
import GoSem.Claim
import GoSem.ClaimJoined
import GoSem.ClaimMapViews
import Derived.JoinedTies
import Derived.KernelRfl
namespace Go.Proofs.YtmnlbedgkjnodaaDoor
/- THE CELL 'sum', in the pinned program and in every row, IS THE sha256 OF THE DUMP (.gsa) THAT YtmnlbedgkjnodaaDoorProg.lean LOADS. Nothing in Lean hashes anything: it is a label: what it is worth is what the hold of that sum in a sandbox is worth. -/
noncomputable def Tryd.pinned : Pinned := { name := "ytmnlbedgkjnodaadoor", sum := "e501379185d13c3d0825547b717466d0a705c235cd6a3c79330e1c1151af30c2", checked := Tryd.checked }
namespace Rows
def none {H : Type} : Left H := { results := [], args := [] }

/- WHAT THE LISTED PACKAGE-LEVEL VARIABLES READ AS WHEN THE CALL BEGINS. Each datum BY PROGRAM (the guide's laid-datum.mjs) off the statement by which the dump's own 'gosem.cut.vars' lays the variable. In a bare row this is a premise. The card (YtmnlbedgkjnodaaDoorCards.lean) ties it to the program's text. -/
def laid_math_bits_deBruijn64tab {H : Type} : DataW H := .agg [.lit (.int .u8 0), .lit (.int .u8 1), .lit (.int .u8 56), .lit (.int .u8 2), .lit (.int .u8 57), .lit (.int .u8 49), .lit (.int .u8 28), .lit (.int .u8 3), .lit (.int .u8 61), .lit (.int .u8 58), .lit (.int .u8 42), .lit (.int .u8 50), .lit (.int .u8 38), .lit (.int .u8 29), .lit (.int .u8 17), .lit (.int .u8 4), .lit (.int .u8 62), .lit (.int .u8 47), .lit (.int .u8 59), .lit (.int .u8 36), .lit (.int .u8 45), .lit (.int .u8 43), .lit (.int .u8 51), .lit (.int .u8 22), .lit (.int .u8 53), .lit (.int .u8 39), .lit (.int .u8 33), .lit (.int .u8 30), .lit (.int .u8 24), .lit (.int .u8 18), .lit (.int .u8 12), .lit (.int .u8 5), .lit (.int .u8 63), .lit (.int .u8 55), .lit (.int .u8 48), .lit (.int .u8 27), .lit (.int .u8 60), .lit (.int .u8 41), .lit (.int .u8 37), .lit (.int .u8 16), .lit (.int .u8 46), .lit (.int .u8 35), .lit (.int .u8 44), .lit (.int .u8 21), .lit (.int .u8 52), .lit (.int .u8 32), .lit (.int .u8 23), .lit (.int .u8 11), .lit (.int .u8 54), .lit (.int .u8 26), .lit (.int .u8 40), .lit (.int .u8 15), .lit (.int .u8 34), .lit (.int .u8 20), .lit (.int .u8 31), .lit (.int .u8 10), .lit (.int .u8 25), .lit (.int .u8 14), .lit (.int .u8 19), .lit (.int .u8 9), .lit (.int .u8 13), .lit (.int .u8 8), .lit (.int .u8 7), .lit (.int .u8 6)]
def laid_thermograph_tsz_none {H : Type} : DataW H := .agg [.lit (.int .i64 (-1)), .lit (.int .i64 (-1))]

/-- 'thermographlaw05.TszMost': WHATEVER THE INPUT: true; the input reads as it did. -/
def tszMostSpec : ChangeSpec := { name := "tszMost", fn := fun _ => fun
  | [d] => { results := [.lit (.bool true)], args := [d] }
  | _ => none }
def tszMostRow : OpenClaim := { program := "ytmnlbedgkjnodaadoor", sum := "e501379185d13c3d0825547b717466d0a705c235cd6a3c79330e1c1151af30c2", func := "thermograph/thermographlaw05.TszMost", spec := "tszMost", named := ["thermograph/tsz.none", "math/bits.deBruijn64tab"], apart := false, laid := [("math/bits.deBruijn64tab", laid_math_bits_deBruijn64tab), ("thermograph/tsz.none", laid_thermograph_tsz_none)] }
def TszMostSaid : Prop := tszMostRow.holds Tryd.pinned (OpenSpec.ofChange tszMostSpec)

/-- ITS FALSE NEIGHBOUR: 'it returns false'. Refute it at one input. -/
def tszMostWrong : ChangeSpec := { name := "tszMost", fn := fun _ => fun
  | [d] => { results := [.lit (.bool false)], args := [d] }
  | _ => none }
def TszMostWrongFalsely : Prop := tszMostRow.holds Tryd.pinned (OpenSpec.ofChange tszMostWrong)

/-- 'thermographlaw05.TszEven': WHATEVER THE INPUT: true; the input reads as it did. -/
def tszEvenSpec : ChangeSpec := { name := "tszEven", fn := fun _ => fun
  | [d1, d2, d3, d4, d5] => { results := [.lit (.bool true)], args := [d1, d2, d3, d4, d5] }
  | _ => none }
def tszEvenRow : OpenClaim := { program := "ytmnlbedgkjnodaadoor", sum := "e501379185d13c3d0825547b717466d0a705c235cd6a3c79330e1c1151af30c2", func := "thermograph/thermographlaw05.TszEven", spec := "tszEven", named := ["thermograph/tsz.none", "math/bits.deBruijn64tab"], apart := false, laid := [("math/bits.deBruijn64tab", laid_math_bits_deBruijn64tab), ("thermograph/tsz.none", laid_thermograph_tsz_none)] }
def TszEvenSaid : Prop := tszEvenRow.holds Tryd.pinned (OpenSpec.ofChange tszEvenSpec)

/-- ITS FALSE NEIGHBOUR: 'it returns false'. Refute it at one input. -/
def tszEvenWrong : ChangeSpec := { name := "tszEven", fn := fun _ => fun
  | [d1, d2, d3, d4, d5] => { results := [.lit (.bool false)], args := [d1, d2, d3, d4, d5] }
  | _ => none }
def TszEvenWrongFalsely : Prop := tszEvenRow.holds Tryd.pinned (OpenSpec.ofChange tszEvenWrong)

/-- 'thermographlaw05.TszEncodes': WHATEVER THE INPUT: true; the input reads as it did. -/
def tszEncodesSpec : ChangeSpec := { name := "tszEncodes", fn := fun _ => fun
  | [d] => { results := [.lit (.bool true)], args := [d] }
  | _ => none }
def tszEncodesRow : OpenClaim := { program := "ytmnlbedgkjnodaadoor", sum := "e501379185d13c3d0825547b717466d0a705c235cd6a3c79330e1c1151af30c2", func := "thermograph/thermographlaw05.TszEncodes", spec := "tszEncodes", named := ["thermograph/tsz.none", "math/bits.deBruijn64tab"], apart := false, laid := [("math/bits.deBruijn64tab", laid_math_bits_deBruijn64tab), ("thermograph/tsz.none", laid_thermograph_tsz_none)] }
def TszEncodesSaid : Prop := tszEncodesRow.holds Tryd.pinned (OpenSpec.ofChange tszEncodesSpec)

/-- ITS FALSE NEIGHBOUR: 'it returns false'. Refute it at one input. -/
def tszEncodesWrong : ChangeSpec := { name := "tszEncodes", fn := fun _ => fun
  | [d] => { results := [.lit (.bool false)], args := [d] }
  | _ => none }
def TszEncodesWrongFalsely : Prop := tszEncodesRow.holds Tryd.pinned (OpenSpec.ofChange tszEncodesWrong)

/-- 'thermographlaw05.TszSums': WHATEVER THE INPUT: true; the input reads as it did. -/
def tszSumsSpec : ChangeSpec := { name := "tszSums", fn := fun _ => fun
  | [d] => { results := [.lit (.bool true)], args := [d] }
  | _ => none }
def tszSumsRow : OpenClaim := { program := "ytmnlbedgkjnodaadoor", sum := "e501379185d13c3d0825547b717466d0a705c235cd6a3c79330e1c1151af30c2", func := "thermograph/thermographlaw05.TszSums", spec := "tszSums", named := ["thermograph/tsz.none", "math/bits.deBruijn64tab"], apart := false, laid := [("math/bits.deBruijn64tab", laid_math_bits_deBruijn64tab), ("thermograph/tsz.none", laid_thermograph_tsz_none)] }
def TszSumsSaid : Prop := tszSumsRow.holds Tryd.pinned (OpenSpec.ofChange tszSumsSpec)

/-- ITS FALSE NEIGHBOUR: 'it returns false'. Refute it at one input. -/
def tszSumsWrong : ChangeSpec := { name := "tszSums", fn := fun _ => fun
  | [d] => { results := [.lit (.bool false)], args := [d] }
  | _ => none }
def TszSumsWrongFalsely : Prop := tszSumsRow.holds Tryd.pinned (OpenSpec.ofChange tszSumsWrong)

/-- 'thermographlaw05.TszFirst': WHATEVER THE INPUT: true; the input reads as it did. -/
def tszFirstSpec : ChangeSpec := { name := "tszFirst", fn := fun _ => fun
  | [d1, d2] => { results := [.lit (.bool true)], args := [d1, d2] }
  | _ => none }
def tszFirstRow : OpenClaim := { program := "ytmnlbedgkjnodaadoor", sum := "e501379185d13c3d0825547b717466d0a705c235cd6a3c79330e1c1151af30c2", func := "thermograph/thermographlaw05.TszFirst", spec := "tszFirst", unfollowed := true, recurses := true, named := ["thermograph/tsz.none", "math/bits.deBruijn64tab"], apart := false, laid := [("math/bits.deBruijn64tab", laid_math_bits_deBruijn64tab), ("thermograph/tsz.none", laid_thermograph_tsz_none)] }
def TszFirstSaid : Prop := tszFirstRow.holds Tryd.pinned (OpenSpec.ofChange tszFirstSpec)

/-- ITS FALSE NEIGHBOUR: 'it returns false'. Refute it at one input. -/
def tszFirstWrong : ChangeSpec := { name := "tszFirst", fn := fun _ => fun
  | [d1, d2] => { results := [.lit (.bool false)], args := [d1, d2] }
  | _ => none }
def TszFirstWrongFalsely : Prop := tszFirstRow.holds Tryd.pinned (OpenSpec.ofChange tszFirstWrong)

/-- 'thermographlaw05.TszDecodes': WHATEVER THE INPUT: true; the input reads as it did. -/
def tszDecodesSpec : ChangeSpec := { name := "tszDecodes", fn := fun _ => fun
  | [d] => { results := [.lit (.bool true)], args := [d] }
  | _ => none }
def tszDecodesRow : OpenClaim := { program := "ytmnlbedgkjnodaadoor", sum := "e501379185d13c3d0825547b717466d0a705c235cd6a3c79330e1c1151af30c2", func := "thermograph/thermographlaw05.TszDecodes", spec := "tszDecodes", unfollowed := true, recurses := true, named := ["thermograph/tsz.none", "math/bits.deBruijn64tab"], apart := false, laid := [("math/bits.deBruijn64tab", laid_math_bits_deBruijn64tab), ("thermograph/tsz.none", laid_thermograph_tsz_none)] }
def TszDecodesSaid : Prop := tszDecodesRow.holds Tryd.pinned (OpenSpec.ofChange tszDecodesSpec)

/-- ITS FALSE NEIGHBOUR: 'it returns false'. Refute it at one input. -/
def tszDecodesWrong : ChangeSpec := { name := "tszDecodes", fn := fun _ => fun
  | [d] => { results := [.lit (.bool false)], args := [d] }
  | _ => none }
def TszDecodesWrongFalsely : Prop := tszDecodesRow.holds Tryd.pinned (OpenSpec.ofChange tszDecodesWrong)

/-- 'thermographlaw05.TszBack': WHATEVER THE INPUT: true; the input reads as it did. -/
def tszBackSpec : ChangeSpec := { name := "tszBack", fn := fun _ => fun
  | [d] => { results := [.lit (.bool true)], args := [d] }
  | _ => none }
def tszBackRow : OpenClaim := { program := "ytmnlbedgkjnodaadoor", sum := "e501379185d13c3d0825547b717466d0a705c235cd6a3c79330e1c1151af30c2", func := "thermograph/thermographlaw05.TszBack", spec := "tszBack", unfollowed := true, recurses := true, named := ["thermograph/tsz.none", "math/bits.deBruijn64tab"], apart := false, laid := [("math/bits.deBruijn64tab", laid_math_bits_deBruijn64tab), ("thermograph/tsz.none", laid_thermograph_tsz_none)] }
def TszBackSaid : Prop := tszBackRow.holds Tryd.pinned (OpenSpec.ofChange tszBackSpec)

/-- ITS FALSE NEIGHBOUR: 'it returns false'. Refute it at one input. -/
def tszBackWrong : ChangeSpec := { name := "tszBack", fn := fun _ => fun
  | [d] => { results := [.lit (.bool false)], args := [d] }
  | _ => none }
def TszBackWrongFalsely : Prop := tszBackRow.holds Tryd.pinned (OpenSpec.ofChange tszBackWrong)

/-- 'thermographlaw05.TszOne': WHATEVER THE INPUT: true; the input reads as it did. -/
def tszOneSpec : ChangeSpec := { name := "tszOne", fn := fun _ => fun
  | [d1, d2, d3] => { results := [.lit (.bool true)], args := [d1, d2, d3] }
  | _ => none }
def tszOneRow : OpenClaim := { program := "ytmnlbedgkjnodaadoor", sum := "e501379185d13c3d0825547b717466d0a705c235cd6a3c79330e1c1151af30c2", func := "thermograph/thermographlaw05.TszOne", spec := "tszOne", unfollowed := true, recurses := true, named := ["thermograph/tsz.none", "math/bits.deBruijn64tab"], apart := false, laid := [("math/bits.deBruijn64tab", laid_math_bits_deBruijn64tab), ("thermograph/tsz.none", laid_thermograph_tsz_none)] }
def TszOneSaid : Prop := tszOneRow.holds Tryd.pinned (OpenSpec.ofChange tszOneSpec)

/-- ITS FALSE NEIGHBOUR: 'it returns false'. Refute it at one input. -/
def tszOneWrong : ChangeSpec := { name := "tszOne", fn := fun _ => fun
  | [d1, d2, d3] => { results := [.lit (.bool false)], args := [d1, d2, d3] }
  | _ => none }
def TszOneWrongFalsely : Prop := tszOneRow.holds Tryd.pinned (OpenSpec.ofChange tszOneWrong)

/- THE SECOND FORM. 'bulk': how many values and letters a reading holds, each counted each time it is reached (what is shared counts as often as it is met; a slice's spare places count too). A statement '..UptoSaid' is the law's where the arguments, and the package variables that the reading takes, are together of bulk at most 1048576: NARROWER than '..Said'. Prove '..Said' where nothing that the law and all that it calls make is longer than what came in: it says more and counts as full. Else prove '..UptoSaid'. A law counts once. -/
mutual
def uptoBulk {H : Type} : DataW H → Nat
  | .lit (.string bytes) => bytes.length + 1
  | .lit _ => 1
  | .nil => 1
  | .ptr d => uptoBulk d + 1
  | .slice elems spare => uptoBulkAll elems + uptoBulkAll spare + 1
  | .agg parts => uptoBulkAll parts + 1
  | .iface _ d => uptoBulk d + 1
  | .map entries => uptoBulkEntries entries + 1
  | .held _ => 1
def uptoBulkAll {H : Type} : List (DataW H) → Nat
  | [] => 0
  | d :: r => uptoBulk d + uptoBulkAll r
def uptoBulkEntries {H : Type} : List (Lit × DataW H) → Nat
  | [] => 0
  | x :: r => uptoBulkEntry x + uptoBulkEntries r
def uptoBulkEntry {H : Type} : Lit × DataW H → Nat
  | (.string bytes, d) => bytes.length + uptoBulk d + 1
  | (_, d) => uptoBulk d + 1
 end
def uptoSmall : (H : Type) → List (DataW H) → Bool := fun _ ds => decide (uptoBulkAll ds ≤ 1048576)
def OpenSpec.upto (s : _root_.Go.ChangeSpec) : _root_.Go.OpenSpec := { _root_.Go.OpenSpec.ofChange s with cond := some uptoSmall }

/-- 'thermographlaw05.TszMost', WHERE WHAT IT READS IS OF BULK AT MOST 1048576: true; the input reads as it did. -/
def tszMostUptoRow : OpenClaim := { program := "ytmnlbedgkjnodaadoor", sum := "e501379185d13c3d0825547b717466d0a705c235cd6a3c79330e1c1151af30c2", func := "thermograph/thermographlaw05.TszMost", spec := "tszMost", named := ["thermograph/tsz.none", "math/bits.deBruijn64tab"], apart := false, laid := [("math/bits.deBruijn64tab", laid_math_bits_deBruijn64tab), ("thermograph/tsz.none", laid_thermograph_tsz_none)], narrowed := true }
def TszMostUptoSaid : Prop := tszMostUptoRow.holds Tryd.pinned (OpenSpec.upto tszMostSpec)

/-- 'thermographlaw05.TszEven', WHERE WHAT IT READS IS OF BULK AT MOST 1048576: true; the input reads as it did. -/
def tszEvenUptoRow : OpenClaim := { program := "ytmnlbedgkjnodaadoor", sum := "e501379185d13c3d0825547b717466d0a705c235cd6a3c79330e1c1151af30c2", func := "thermograph/thermographlaw05.TszEven", spec := "tszEven", named := ["thermograph/tsz.none", "math/bits.deBruijn64tab"], apart := false, laid := [("math/bits.deBruijn64tab", laid_math_bits_deBruijn64tab), ("thermograph/tsz.none", laid_thermograph_tsz_none)], narrowed := true }
def TszEvenUptoSaid : Prop := tszEvenUptoRow.holds Tryd.pinned (OpenSpec.upto tszEvenSpec)

/-- 'thermographlaw05.TszEncodes', WHERE WHAT IT READS IS OF BULK AT MOST 1048576: true; the input reads as it did. -/
def tszEncodesUptoRow : OpenClaim := { program := "ytmnlbedgkjnodaadoor", sum := "e501379185d13c3d0825547b717466d0a705c235cd6a3c79330e1c1151af30c2", func := "thermograph/thermographlaw05.TszEncodes", spec := "tszEncodes", named := ["thermograph/tsz.none", "math/bits.deBruijn64tab"], apart := false, laid := [("math/bits.deBruijn64tab", laid_math_bits_deBruijn64tab), ("thermograph/tsz.none", laid_thermograph_tsz_none)], narrowed := true }
def TszEncodesUptoSaid : Prop := tszEncodesUptoRow.holds Tryd.pinned (OpenSpec.upto tszEncodesSpec)

/-- 'thermographlaw05.TszSums', WHERE WHAT IT READS IS OF BULK AT MOST 1048576: true; the input reads as it did. -/
def tszSumsUptoRow : OpenClaim := { program := "ytmnlbedgkjnodaadoor", sum := "e501379185d13c3d0825547b717466d0a705c235cd6a3c79330e1c1151af30c2", func := "thermograph/thermographlaw05.TszSums", spec := "tszSums", named := ["thermograph/tsz.none", "math/bits.deBruijn64tab"], apart := false, laid := [("math/bits.deBruijn64tab", laid_math_bits_deBruijn64tab), ("thermograph/tsz.none", laid_thermograph_tsz_none)], narrowed := true }
def TszSumsUptoSaid : Prop := tszSumsUptoRow.holds Tryd.pinned (OpenSpec.upto tszSumsSpec)

/-- 'thermographlaw05.TszFirst', WHERE WHAT IT READS IS OF BULK AT MOST 1048576: true; the input reads as it did. -/
def tszFirstUptoRow : OpenClaim := { program := "ytmnlbedgkjnodaadoor", sum := "e501379185d13c3d0825547b717466d0a705c235cd6a3c79330e1c1151af30c2", func := "thermograph/thermographlaw05.TszFirst", spec := "tszFirst", unfollowed := true, recurses := true, named := ["thermograph/tsz.none", "math/bits.deBruijn64tab"], apart := false, laid := [("math/bits.deBruijn64tab", laid_math_bits_deBruijn64tab), ("thermograph/tsz.none", laid_thermograph_tsz_none)], narrowed := true }
def TszFirstUptoSaid : Prop := tszFirstUptoRow.holds Tryd.pinned (OpenSpec.upto tszFirstSpec)

/-- 'thermographlaw05.TszDecodes', WHERE WHAT IT READS IS OF BULK AT MOST 1048576: true; the input reads as it did. -/
def tszDecodesUptoRow : OpenClaim := { program := "ytmnlbedgkjnodaadoor", sum := "e501379185d13c3d0825547b717466d0a705c235cd6a3c79330e1c1151af30c2", func := "thermograph/thermographlaw05.TszDecodes", spec := "tszDecodes", unfollowed := true, recurses := true, named := ["thermograph/tsz.none", "math/bits.deBruijn64tab"], apart := false, laid := [("math/bits.deBruijn64tab", laid_math_bits_deBruijn64tab), ("thermograph/tsz.none", laid_thermograph_tsz_none)], narrowed := true }
def TszDecodesUptoSaid : Prop := tszDecodesUptoRow.holds Tryd.pinned (OpenSpec.upto tszDecodesSpec)

/-- 'thermographlaw05.TszBack', WHERE WHAT IT READS IS OF BULK AT MOST 1048576: true; the input reads as it did. -/
def tszBackUptoRow : OpenClaim := { program := "ytmnlbedgkjnodaadoor", sum := "e501379185d13c3d0825547b717466d0a705c235cd6a3c79330e1c1151af30c2", func := "thermograph/thermographlaw05.TszBack", spec := "tszBack", unfollowed := true, recurses := true, named := ["thermograph/tsz.none", "math/bits.deBruijn64tab"], apart := false, laid := [("math/bits.deBruijn64tab", laid_math_bits_deBruijn64tab), ("thermograph/tsz.none", laid_thermograph_tsz_none)], narrowed := true }
def TszBackUptoSaid : Prop := tszBackUptoRow.holds Tryd.pinned (OpenSpec.upto tszBackSpec)

/-- 'thermographlaw05.TszOne', WHERE WHAT IT READS IS OF BULK AT MOST 1048576: true; the input reads as it did. -/
def tszOneUptoRow : OpenClaim := { program := "ytmnlbedgkjnodaadoor", sum := "e501379185d13c3d0825547b717466d0a705c235cd6a3c79330e1c1151af30c2", func := "thermograph/thermographlaw05.TszOne", spec := "tszOne", unfollowed := true, recurses := true, named := ["thermograph/tsz.none", "math/bits.deBruijn64tab"], apart := false, laid := [("math/bits.deBruijn64tab", laid_math_bits_deBruijn64tab), ("thermograph/tsz.none", laid_thermograph_tsz_none)], narrowed := true }
def TszOneUptoSaid : Prop := tszOneUptoRow.holds Tryd.pinned (OpenSpec.upto tszOneSpec)

end Rows
end Go.Proofs.YtmnlbedgkjnodaaDoor
