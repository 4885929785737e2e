/- The law TszMost, its call. -/
import Derived.Test.YtmnlbedgkjnodaaDoorTeR
import Derived.Test.YtmnlbedgkjnodaaDoorQBx7
namespace Go.Proofs.YtmnlbedgkjnodaaDoor.LwTszMost
open Go.RowKit Go.Proofs.YtmnlbedgkjnodaaDoorW.PrintWords Go.Proofs.YtmnlbedgkjnodaaDoorW.PrintLast Go.Proofs.YtmnlbedgkjnodaaDoorW.PrintMore Go.Proofs.YtmnlbedgkjnodaaDoor.QB Go.Proofs.YtmnlbedgkjnodaaDoor.TeP Go.Proofs.YtmnlbedgkjnodaaDoor.TeR
theorem TszMost_calls (W : World) (a0 : Option Addr) (cap0 : Nat) (l0 : List Pt) (hc0 : l0.length ≤ cap0) (hr0 : Kd.C k33 W a0 l0.length l0) (hw0 : OkL l0) (_hs0 : l0.length * 24 ≤ 140737488351232) (hL : Ld.LaidW W) :
    Calls Tryd.prog 3 #[.slice a0 l0.length cap0] W fun e w' => e = .returned (.bool true) ∧ Below W.heap.size W w' :=
  thermographlaw05_TszMost.calls 10000 a0 cap0 l0 true W hr0 hc0 (TszMost_f hw0) hL
end Go.Proofs.YtmnlbedgkjnodaaDoor.LwTszMost
