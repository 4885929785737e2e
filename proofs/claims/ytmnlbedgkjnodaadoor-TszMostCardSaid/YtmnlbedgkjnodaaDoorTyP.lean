/- Points as an argument, opened. -/
import Derived.Test.YtmnlbedgkjnodaaDoorOp
import Derived.Test.YtmnlbedgkjnodaaDoorTeP
namespace Go.Proofs.YtmnlbedgkjnodaaDoor.TyP
open Go.RowKit Go.Proofs.YtmnlbedgkjnodaaDoorW.PrintWords Go.Proofs.YtmnlbedgkjnodaaDoorW.PrintLast Go.Proofs.YtmnlbedgkjnodaaDoorW.PrintMore Go.Proofs.YtmnlbedgkjnodaaDoor.QB Go.Proofs.YtmnlbedgkjnodaaDoor.Op Go.Proofs.YtmnlbedgkjnodaaDoor.TeP
set_option linter.unusedVariables false
set_option linter.unusedSimpArgs false
theorem opens_pt : Opens Tryd.prog 33 k33 okPt :=
  opens_mono (opens_iso (g := fun p : Int × Int × Int => (⟨p.1, p.2.1, p.2.2⟩ : Pt)) (fun _ => rfl)
    (opens_struct Tryd.underlying33 (by kernel_rfl) (opensFs_cons rfl (by kernel_rfl) (opens_int Tryd.underlying3) (opensFs_cons rfl (by kernel_rfl) (opens_int Tryd.underlying30) (opensFs_last rfl (by kernel_rfl) (opens_int Tryd.underlying30)))))) (fun x h => by
      obtain ⟨h0, h1, h2⟩ := h
      simp [Lit.wf, IntKind.min, IntKind.max, IntKind.signed, IntKind.bits] at h0 h1 h2
      exact ⟨⟨by omega, by omega⟩, ⟨by omega, by omega⟩, ⟨by omega, by omega⟩⟩)
theorem opens_pts : Opens Tryd.prog 22 (Kd.slice 33 k33) OkL :=
  opens_slice Tryd.underlying22 (by kernel_rfl) opens_pt
end Go.Proofs.YtmnlbedgkjnodaaDoor.TyP
