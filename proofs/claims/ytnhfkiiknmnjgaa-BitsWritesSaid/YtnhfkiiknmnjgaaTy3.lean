/- The types of layer 3's laws, opened. -/
import Derived.Test.YtnhfkiiknmnjgaaOp
import Derived.Test.YtnhfkiiknmnjgaaQBx0
namespace Go.Proofs.Ytnhfkiiknmnjgaa.Ty3
open Go.RowKit Go.Proofs.YtnhfkiiknmnjgaaW.PrintWords Go.Proofs.YtnhfkiiknmnjgaaW.PrintLast Go.Proofs.YtnhfkiiknmnjgaaW.PrintMore Go.Proofs.Ytnhfkiiknmnjgaa.QB Go.Proofs.Ytnhfkiiknmnjgaa.Op
def okStep (x : S43) : Prop := (Lit.int .u64 x.f0).wf = true ∧ (Lit.int .i64 x.f1).wf = true
theorem opens_step : Opens Try.prog 43 k43 okStep :=
  opens_iso (g := fun p : Int × Int => (⟨p.1, p.2⟩ : S43)) (fun _ => rfl)
    (opens_struct Try.underlying43 (by kernel_rfl) (opensFs_cons rfl (by kernel_rfl) (opens_int Try.underlying22) (opensFs_last rfl (by kernel_rfl) (opens_int Try.underlying3))))
theorem opens_steps : Opens Try.prog 38 (Kd.slice 43 k43) (fun l => ∀ x ∈ l, okStep x) :=
  opens_slice Try.underlying38 (by kernel_rfl) opens_step
end Go.Proofs.Ytnhfkiiknmnjgaa.Ty3
