/- What the package-level variables hold that the codec reads: the library's table of trailing zeros, and the window that is none; kept wherever what was there is kept. -/
import Derived.Test.YtmnlbedgkjnodaaDoorWKept
import Derived.Shelf.Spec.TrailingZeros
namespace Go.Proofs.YtmnlbedgkjnodaaDoor.Ld
open Go.RowKit
set_option linter.unusedVariables false

/-- The two variables as the program's text lays them. -/
def LaidW (w : World) : Prop := TabAt 1 Lib.deBruijn64tab w ∧ w.cell? ⟨0, 0, none⟩ = some (.int .i64 (-1)) ∧ w.cell? ⟨0, 1, none⟩ = some (.int .i64 (-1))
theorem LaidW.below {w w' : World} (h : LaidW w) (hb : Below w.heap.size w w') : LaidW w' :=
  ⟨fun j hj => (hb.cell (World.block_lt_of_cell? w _ (h.1 j hj))).trans (h.1 j hj), (hb.cell (World.block_lt_of_cell? w _ h.2.1)).trans h.2.1, (hb.cell (World.block_lt_of_cell? w _ h.2.2)).trans h.2.2⟩
end Go.Proofs.YtmnlbedgkjnodaaDoor.Ld
