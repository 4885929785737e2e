/- The steps of layer 1's laws: how they are read, and that a script is not heavy. -/
import Derived.Test.YtlngljhinboglaaOp
import Derived.Test.YtlngljhinboglaaQBx1
namespace Go.Proofs.Ytlngljhinboglaa.StepQ
open Go.RowKit Go.Proofs.YtlngljhinboglaaW.PrintWords Go.Proofs.YtlngljhinboglaaW.PrintLast Go.Proofs.YtlngljhinboglaaW.PrintMore Go.Proofs.Ytlngljhinboglaa.QB Go.Proofs.Ytlngljhinboglaa.Op
set_option linter.unusedVariables false
set_option linter.unusedSimpArgs false
abbrev St := S34
def okStep (p : St) : Prop := (Lit.int .i64 p.f0).wf = true ∧ (Lit.int .i64 p.f1).wf = true ∧ (Lit.int .i64 p.f2).wf = true ∧ (Lit.int .i64 p.f3).wf = true ∧ p.f4.size ≤ maxLen ∧ p.f5.size ≤ maxLen
theorem opens_step : Opens Try.prog 34 k34 okStep :=
  opens_iso (g := fun p : Int × Int × Int × Int × ByteArray × ByteArray => (⟨p.1, p.2.1, p.2.2.1, p.2.2.2.1, p.2.2.2.2.1, p.2.2.2.2.2⟩ : St)) (fun _ => rfl)
    (opens_struct Try.underlying34 (by kernel_rfl) (opensFs_cons rfl (by kernel_rfl) (opens_int Try.underlying3) (opensFs_cons rfl (by kernel_rfl) (opens_int Try.underlying3) (opensFs_cons rfl (by kernel_rfl) (opens_int Try.underlying3) (opensFs_cons rfl (by kernel_rfl) (opens_int Try.underlying3) (opensFs_cons rfl (by kernel_rfl) (opens_string Try.underlying9) (opensFs_last rfl (by kernel_rfl) (opens_string Try.underlying9))))))))
theorem opens_steps : Opens Try.prog 31 (Kd.slice 34 k34) (fun l => ∀ x ∈ l, okStep x) :=
  opens_slice Try.underlying31 (by kernel_rfl) opens_step
theorem mn_eq (a b : Int) : mn a b = min a b := by unfold mn; split <;> omega
theorem heavy_l0 (l : List St) (hl : l.length ≤ 65536) : ∀ (d k : Nat) (acc : Int) (i : Nat), i + d = l.length → d < k → 0 ≤ acc → ∃ b, thermographlaw01_heavy.l0 k l acc i = some b ∧ (b = false → acc ≤ 65536 ∧ l.length ≤ 256 ∧ ∀ j, i ≤ j → j < l.length → (l.getD j z34).f4.size ≤ 65536 ∧ (l.getD j z34).f5.size ≤ 65536)
  | 0, k + 1, acc, i, hi, hk, ha => by
    rw [thermographlaw01_heavy.l0, if_neg (by omega)]
    by_cases h : acc > 65536
    · rw [if_pos h]
      exact ⟨true, rfl, fun e => by cases e⟩
    · rw [if_neg h]
      refine ⟨_, rfl, fun e => ⟨by omega, ?_, fun j h1 h2 => by omega⟩⟩
      have := of_decide_eq_false e
      omega
  | d + 1, k + 1, acc, i, hi, hk, ha => by
    rw [thermographlaw01_heavy.l0, if_pos (by omega)]
    by_cases h : acc ≤ 65536
    · rw [if_pos h, if_pos (by omega)]
      have e1 : wrap64 ((i : Int) + 1) = ((i + 1 : Nat) : Int) := by unfold wrap64; omega
      have hrd : rd_T34 l i = l.getD i z34 := rfl
      rw [e1, hrd, mn_eq, mn_eq]
      generalize hp : l.getD i z34 = p
      have e2 : wrap64 (acc + (min (p.f4.size : Int) 1048576 + min (p.f5.size : Int) 1048576)) = acc + (min (p.f4.size : Int) 1048576 + min (p.f5.size : Int) 1048576) := by unfold wrap64; omega
      rw [e2]
      obtain ⟨b, h1, h2⟩ := heavy_l0 l hl d k (acc + (min (p.f4.size : Int) 1048576 + min (p.f5.size : Int) 1048576)) (i + 1) (by omega) (by omega) (by omega)
      refine ⟨b, h1, fun e => ?_⟩
      obtain ⟨h3, h4, h5⟩ := h2 e
      refine ⟨h, h4, fun j hj1 hj2 => ?_⟩
      by_cases hj : j = i
      · subst hj
        rw [hp]
        constructor <;> omega
      · exact h5 j (by omega) hj2
    · rw [if_neg h, if_pos (by omega)]
      exact ⟨true, rfl, fun e => by cases e⟩
theorem heavy_f (l : List St) : ∃ b, thermographlaw01_heavy.f 70000 l = some b ∧ (b = false → l.length ≤ 256 ∧ ∀ j, j < l.length → (l.getD j z34).f4.size ≤ 65536 ∧ (l.getD j z34).f5.size ≤ 65536) := by
  unfold thermographlaw01_heavy.f
  by_cases hl : l.length ≤ 65536
  · obtain ⟨b, h1, h2⟩ := heavy_l0 l hl l.length 70000 (l.length : Int) 0 (by omega) (by omega) (by omega)
    exact ⟨b, h1, fun e => ⟨(h2 e).2.1, fun j hj => (h2 e).2.2 j (by omega) hj⟩⟩
  · refine ⟨true, ?_, fun e => by cases e⟩
    rw [show 70000 = 69999 + 1 from rfl, thermographlaw01_heavy.l0, if_pos (by omega), if_neg (by omega), if_pos (by omega)]
end Go.Proofs.Ytlngljhinboglaa.StepQ
