/- The types of layer 3's laws, opened. -/
import Derived.Test.YtnhfkiiknmnjgaaOp
import Derived.Test.YtnhfkiiknmnjgaaQBx0
namespace Go.Proofs.Ytnhfkiiknmnjgaa.Ty3
open Go.RowKit Go.Proofs.YtnhfkiiknmnjgaaW.PrintWords Go.Proofs.YtnhfkiiknmnjgaaW.PrintLast Go.Proofs.YtnhfkiiknmnjgaaW.PrintMore Go.Proofs.Ytnhfkiiknmnjgaa.QB Go.Proofs.Ytnhfkiiknmnjgaa.Op
set_option linter.unusedVariables false
set_option linter.unusedSimpArgs false
def okStep (x : S43) : Prop := (Lit.int .u64 x.f0).wf = true ∧ (Lit.int .i64 x.f1).wf = true
theorem opens_step : Opens Try.prog 43 k43 okStep :=
  opens_iso (g := fun p : Int × Int => (⟨p.1, p.2⟩ : S43)) (fun _ => rfl)
    (opens_struct Try.underlying43 (by kernel_rfl) (opensFs_cons rfl (by kernel_rfl) (opens_int Try.underlying22) (opensFs_last rfl (by kernel_rfl) (opens_int Try.underlying3))))
theorem opens_steps : Opens Try.prog 38 (Kd.slice 43 k43) (fun l => ∀ x ∈ l, okStep x) :=
  opens_slice Try.underlying38 (by kernel_rfl) opens_step

/-- A step of the argument's: its two cells, in whatever world that keeps what was there. -/
theorem step_at {W : World} {a0 : Option Addr} {l0 : List S43} (hr : Kd.C k43 W a0 l0.length l0) (hw : ∀ x ∈ l0, okStep x) {k : Nat} (hk : k < l0.length) :
    ∃ (ad : Addr) (vn : Nat) (nn : Int), a0 = some ad ∧ l0[k] = ⟨(vn : Int), nn⟩ ∧ vn < 18446744073709551616 ∧ (-9223372036854775808 ≤ nn ∧ nn < 9223372036854775808) ∧
      ∀ w', Below W.heap.size W w' → w'.cell? (ad.add (k * 2)) = some (.int .u64 vn) ∧ w'.cell? ⟨(ad.add (k * 2)).block, (ad.add (k * 2)).off + 1, none⟩ = some (.int .i64 nn) := by
  obtain ⟨ad, ha, hx0, hx1⟩ := at_T43 hr (k : Int) (by omega) (by omega)
  have e : rd_T43 l0 (k : Int) = l0[k] := by
    unfold rd_T43
    rw [Int.toNat_natCast, List.getD_eq_getElem?_getD, List.getElem?_eq_getElem hk]
    rfl
  rw [Int.toNat_natCast, e] at hx0 hx1
  have hok := hw _ (List.getElem_mem hk)
  obtain ⟨st, hst⟩ : ∃ st, l0[k] = st := ⟨_, rfl⟩
  obtain ⟨f0, f1⟩ := st
  rw [hst] at hx0 hx1 hok
  have h0 := hok.1
  have h1 := hok.2
  simp [Lit.wf, IntKind.min, IntKind.max, IntKind.signed, IntKind.bits] at h0 h1
  obtain ⟨vn, rfl⟩ : ∃ vn : Nat, f0 = (vn : Int) := ⟨f0.toNat, by omega⟩
  exact ⟨ad, vn, f1, ha, hst, by omega, by omega, fun w' hb => ⟨(hb.cell (World.block_lt_of_cell? W _ hx0)).trans hx0, (hb.cell (World.block_lt_of_cell? W _ hx1)).trans hx1⟩⟩
end Go.Proofs.Ytnhfkiiknmnjgaa.Ty3
