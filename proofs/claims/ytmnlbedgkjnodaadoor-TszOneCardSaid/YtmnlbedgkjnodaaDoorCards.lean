/-
  DERIVED. GIVEN WITH THE SEED: THE CARDS: each row of YtmnlbedgkjnodaaDoorRows.lean that lists a variable, with what it lists TIED to the program's text (the seventh form; the later family's looks); each row that meets fmt, with fmt's text TOLD by the authors' own Lean function (tested against real Go, not proved from fmt's source: count such statements apart). THE CARD IS WHAT COUNTS. Prove the row's statement (the work); the ties are given (YtmnlbedgkjnodaaDoorTie.lean); close each card by the builder's one call (the guide's Derived/Test/ToyasCard.lean, 'card_holds'). Laid BY PROGRAM, IN A SANDBOX (cutbox-door.mjs). By AI agents, Wed Nov 11 2026. No macro, syntax, notation, axiom, sorry.
-/
import Derived.Test.YtmnlbedgkjnodaaDoorRows
import GoSem.ClaimSeven
namespace Go.Proofs.YtmnlbedgkjnodaaDoor
namespace Rows

/-- THE TIED CARD OF 'thermographlaw05.TszMost'. -/
def tszMostCard : Claim7 := { stood := { row := tszMostRow, standIns := [], harness := (true, "feb29ad1a56895c70ab73450da4fb643eb51980bbda91541496edde7cd7de436"), looks := true }, kinds := [], alts := [], laidByText := true, laidKinds := [.data, .data], laidTests := true, laidLooks := .later }
def TszMostCardSaid : Prop := Claim7.holds Tryd.pinned (.plain (OpenSpec.ofChange tszMostSpec)) tszMostCard

/-- THE TIED CARD OF 'thermographlaw05.TszEven'. -/
def tszEvenCard : Claim7 := { stood := { row := tszEvenRow, standIns := [], harness := (true, "feb29ad1a56895c70ab73450da4fb643eb51980bbda91541496edde7cd7de436"), looks := true }, kinds := [], alts := [], laidByText := true, laidKinds := [.data, .data], laidTests := true, laidLooks := .later }
def TszEvenCardSaid : Prop := Claim7.holds Tryd.pinned (.plain (OpenSpec.ofChange tszEvenSpec)) tszEvenCard

/-- THE TIED CARD OF 'thermographlaw05.TszEncodes'. -/
def tszEncodesCard : Claim7 := { stood := { row := tszEncodesRow, standIns := [], harness := (true, "feb29ad1a56895c70ab73450da4fb643eb51980bbda91541496edde7cd7de436"), looks := true }, kinds := [], alts := [], laidByText := true, laidKinds := [.data, .data], laidTests := true, laidLooks := .later }
def TszEncodesCardSaid : Prop := Claim7.holds Tryd.pinned (.plain (OpenSpec.ofChange tszEncodesSpec)) tszEncodesCard

/-- THE TIED CARD OF 'thermographlaw05.TszSums'. -/
def tszSumsCard : Claim7 := { stood := { row := tszSumsRow, standIns := [], harness := (true, "feb29ad1a56895c70ab73450da4fb643eb51980bbda91541496edde7cd7de436"), looks := true }, kinds := [], alts := [], laidByText := true, laidKinds := [.data, .data], laidTests := true, laidLooks := .later }
def TszSumsCardSaid : Prop := Claim7.holds Tryd.pinned (.plain (OpenSpec.ofChange tszSumsSpec)) tszSumsCard

/-- THE TIED CARD OF 'thermographlaw05.TszFirst'. -/
def tszFirstCard : Claim7 := { stood := { row := tszFirstRow, standIns := [], harness := (true, "feb29ad1a56895c70ab73450da4fb643eb51980bbda91541496edde7cd7de436"), looks := true }, kinds := [], alts := [], laidByText := true, laidKinds := [.data, .data], laidTests := true, laidLooks := .later }
def TszFirstCardSaid : Prop := Claim7.holds Tryd.pinned (.plain (OpenSpec.ofChange tszFirstSpec)) tszFirstCard

/-- THE TIED CARD OF 'thermographlaw05.TszDecodes'. -/
def tszDecodesCard : Claim7 := { stood := { row := tszDecodesRow, standIns := [], harness := (true, "feb29ad1a56895c70ab73450da4fb643eb51980bbda91541496edde7cd7de436"), looks := true }, kinds := [], alts := [], laidByText := true, laidKinds := [.data, .data], laidTests := true, laidLooks := .later }
def TszDecodesCardSaid : Prop := Claim7.holds Tryd.pinned (.plain (OpenSpec.ofChange tszDecodesSpec)) tszDecodesCard

/-- THE TIED CARD OF 'thermographlaw05.TszBack'. -/
def tszBackCard : Claim7 := { stood := { row := tszBackRow, standIns := [], harness := (true, "feb29ad1a56895c70ab73450da4fb643eb51980bbda91541496edde7cd7de436"), looks := true }, kinds := [], alts := [], laidByText := true, laidKinds := [.data, .data], laidTests := true, laidLooks := .later }
def TszBackCardSaid : Prop := Claim7.holds Tryd.pinned (.plain (OpenSpec.ofChange tszBackSpec)) tszBackCard

/-- THE TIED CARD OF 'thermographlaw05.TszOne'. -/
def tszOneCard : Claim7 := { stood := { row := tszOneRow, standIns := [], harness := (true, "feb29ad1a56895c70ab73450da4fb643eb51980bbda91541496edde7cd7de436"), looks := true }, kinds := [], alts := [], laidByText := true, laidKinds := [.data, .data], laidTests := true, laidLooks := .later }
def TszOneCardSaid : Prop := Claim7.holds Tryd.pinned (.plain (OpenSpec.ofChange tszOneSpec)) tszOneCard

/-- THE SECOND FORM's CARD OF 'thermographlaw05.TszMost'. -/
def tszMostUptoCard : Claim7 := { stood := { row := tszMostUptoRow, standIns := [], harness := (true, "feb29ad1a56895c70ab73450da4fb643eb51980bbda91541496edde7cd7de436"), looks := true }, kinds := [], alts := [], laidByText := true, laidKinds := [.data, .data], laidTests := true, laidLooks := .later }
def TszMostUptoCardSaid : Prop := Claim7.holds Tryd.pinned (.plain (OpenSpec.upto tszMostSpec)) tszMostUptoCard

/-- THE SECOND FORM's CARD OF 'thermographlaw05.TszEven'. -/
def tszEvenUptoCard : Claim7 := { stood := { row := tszEvenUptoRow, standIns := [], harness := (true, "feb29ad1a56895c70ab73450da4fb643eb51980bbda91541496edde7cd7de436"), looks := true }, kinds := [], alts := [], laidByText := true, laidKinds := [.data, .data], laidTests := true, laidLooks := .later }
def TszEvenUptoCardSaid : Prop := Claim7.holds Tryd.pinned (.plain (OpenSpec.upto tszEvenSpec)) tszEvenUptoCard

/-- THE SECOND FORM's CARD OF 'thermographlaw05.TszEncodes'. -/
def tszEncodesUptoCard : Claim7 := { stood := { row := tszEncodesUptoRow, standIns := [], harness := (true, "feb29ad1a56895c70ab73450da4fb643eb51980bbda91541496edde7cd7de436"), looks := true }, kinds := [], alts := [], laidByText := true, laidKinds := [.data, .data], laidTests := true, laidLooks := .later }
def TszEncodesUptoCardSaid : Prop := Claim7.holds Tryd.pinned (.plain (OpenSpec.upto tszEncodesSpec)) tszEncodesUptoCard

/-- THE SECOND FORM's CARD OF 'thermographlaw05.TszSums'. -/
def tszSumsUptoCard : Claim7 := { stood := { row := tszSumsUptoRow, standIns := [], harness := (true, "feb29ad1a56895c70ab73450da4fb643eb51980bbda91541496edde7cd7de436"), looks := true }, kinds := [], alts := [], laidByText := true, laidKinds := [.data, .data], laidTests := true, laidLooks := .later }
def TszSumsUptoCardSaid : Prop := Claim7.holds Tryd.pinned (.plain (OpenSpec.upto tszSumsSpec)) tszSumsUptoCard

/-- THE SECOND FORM's CARD OF 'thermographlaw05.TszFirst'. -/
def tszFirstUptoCard : Claim7 := { stood := { row := tszFirstUptoRow, standIns := [], harness := (true, "feb29ad1a56895c70ab73450da4fb643eb51980bbda91541496edde7cd7de436"), looks := true }, kinds := [], alts := [], laidByText := true, laidKinds := [.data, .data], laidTests := true, laidLooks := .later }
def TszFirstUptoCardSaid : Prop := Claim7.holds Tryd.pinned (.plain (OpenSpec.upto tszFirstSpec)) tszFirstUptoCard

/-- THE SECOND FORM's CARD OF 'thermographlaw05.TszDecodes'. -/
def tszDecodesUptoCard : Claim7 := { stood := { row := tszDecodesUptoRow, standIns := [], harness := (true, "feb29ad1a56895c70ab73450da4fb643eb51980bbda91541496edde7cd7de436"), looks := true }, kinds := [], alts := [], laidByText := true, laidKinds := [.data, .data], laidTests := true, laidLooks := .later }
def TszDecodesUptoCardSaid : Prop := Claim7.holds Tryd.pinned (.plain (OpenSpec.upto tszDecodesSpec)) tszDecodesUptoCard

/-- THE SECOND FORM's CARD OF 'thermographlaw05.TszBack'. -/
def tszBackUptoCard : Claim7 := { stood := { row := tszBackUptoRow, standIns := [], harness := (true, "feb29ad1a56895c70ab73450da4fb643eb51980bbda91541496edde7cd7de436"), looks := true }, kinds := [], alts := [], laidByText := true, laidKinds := [.data, .data], laidTests := true, laidLooks := .later }
def TszBackUptoCardSaid : Prop := Claim7.holds Tryd.pinned (.plain (OpenSpec.upto tszBackSpec)) tszBackUptoCard

/-- THE SECOND FORM's CARD OF 'thermographlaw05.TszOne'. -/
def tszOneUptoCard : Claim7 := { stood := { row := tszOneUptoRow, standIns := [], harness := (true, "feb29ad1a56895c70ab73450da4fb643eb51980bbda91541496edde7cd7de436"), looks := true }, kinds := [], alts := [], laidByText := true, laidKinds := [.data, .data], laidTests := true, laidLooks := .later }
def TszOneUptoCardSaid : Prop := Claim7.holds Tryd.pinned (.plain (OpenSpec.upto tszOneSpec)) tszOneUptoCard
end Rows
end Go.Proofs.YtmnlbedgkjnodaaDoor
