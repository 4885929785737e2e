/- What functions of the translation come to, each as a Lean function, and a proof that the call comes to just that; or a law's row, out of its plain law. Written by mp.py, a program of this session, which runs the printer of the kit with stand-in bodies for some library functions. -/
import Derived.Test.YtnhfkiiknmnjgaaProg
import Derived.Below
import Derived.Deep.Draws
import Derived.Deep.AppendLies
import Derived.Maps.AppendAt
import Derived.OwnWalk
import Derived.Laws.BytesArg
import Derived.Laws.MakeOwn
import Derived.Laws.OwnMore
import Derived.Deep.OwnRows
import Derived.Tactics
import Derived.Lib.ConvBytes
import Derived.Laws.Slices
import Derived.WalkKit
import Derived.KernelRfl
import Derived.RowKit3
import Derived.Deep.LoopGhost
import Derived.Deep.QuietTactic
import Derived.BigQuiet
import Derived.WideLaws
import Derived.Deep.DeepCutAuto
import Derived.Deep.CutBlock
import Derived.Deep.RegionHeld3
import Derived.Laws.Rows
import Derived.Lib.AppendStr
import Derived.ArgAppend
import Derived.Laws.IdiomCopy
import Derived.OrdersHeld
import Derived.Laws.BitsLemmas
import Derived.RowKit
import Derived.Lib.SliceRun
import Derived.Test.YtnhfkiiknmnjgaaWWords
import Derived.Test.YtnhfkiiknmnjgaaWLast
import Derived.Test.YtnhfkiiknmnjgaaWTab
import Derived.Test.YtnhfkiiknmnjgaaWFour
import Derived.Test.YtnhfkiiknmnjgaaWQPut
import Derived.Test.YtnhfkiiknmnjgaaWApart
import Derived.Test.YtnhfkiiknmnjgaaWArr
import Derived.Test.YtnhfkiiknmnjgaaWZeros
import Derived.Test.YtnhfkiiknmnjgaaWFoot
import Derived.Test.YtnhfkiiknmnjgaaWKept
import Derived.Test.YtnhfkiiknmnjgaaWShare
import Derived.Test.YtnhfkiiknmnjgaaWN
import Derived.Test.YtnhfkiiknmnjgaaWFootNe
import Derived.Test.YtnhfkiiknmnjgaaWAt
import Derived.Test.YtnhfkiiknmnjgaaWEqStruct
import Derived.Test.YtnhfkiiknmnjgaaWRepsOne
import Derived.Test.YtnhfkiiknmnjgaaWInv
import Derived.Test.YtnhfkiiknmnjgaaWInvWords
import Derived.Test.YtnhfkiiknmnjgaaWGuard
import Derived.Test.YtnhfkiiknmnjgaaWNEv
import Derived.Test.YtnhfkiiknmnjgaaWMore
namespace Go.Proofs.Ytnhfkiiknmnjgaa.QB
open Go.RowKit Go.Proofs.YtnhfkiiknmnjgaaW.PrintWords Go.Proofs.YtnhfkiiknmnjgaaW.PrintLast Go.Proofs.YtnhfkiiknmnjgaaW.PrintMore
attribute [local go_sem] max2_int min2_int max_two min_two max_three min_three max_four min_four   -- for this text's walks alone
set_option linter.unusedVariables false
set_option linter.unusedSimpArgs false



def errW : Option Int → Value
  | none => .nilIface
  | some c => .iface 0 (.int .i64 c)
theorem errW_none : errW none = .nilIface := rfl
theorem errW_some (c : Int) : errW (some c) = .iface 0 (.int .i64 c) := rfl

theorem info5 : (Try.prog.info? 5).map (fun i => (i.zero, i.size, i.bytes)) = some (some (.int .u8 0), 1, 1) := by kernel_rfl
-- the values' own types

end Go.Proofs.Ytnhfkiiknmnjgaa.QB
