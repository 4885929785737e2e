/- More words for a walk's memory (see Sl). -/
import Derived.Test.YtnhfkiiknmnjgaaSl
namespace Go.Proofs.Ytnhfkiiknmnjgaa.Sl
open Go.RowKit Go.Proofs.YtnhfkiiknmnjgaaW.PrintWords Go.Proofs.YtnhfkiiknmnjgaaW.PrintLast Go.Proofs.YtnhfkiiknmnjgaaW.PrintMore
set_option linter.unusedVariables false
set_option linter.unusedSimpArgs false
section
variable {α : Type} {d : Kd α} {e : Nat} {v : Value} {xs : List α} {w0 w w' : World} {L : List Asn} {A : Option Addr} {n c : Nat}
theorem Sat.rowC (h : Sat w0 w (Row d e (.slice A n c) xs :: L)) : d.C w A xs.length xs := by
  obtain ⟨G, h1, _⟩ := h.get
  exact (Kd.R_reads' h1).2.2
theorem Sat.rowLen (h : Sat w0 w (Row d e (.slice A n c) xs :: L)) : n = xs.length ∧ n ≤ c := by
  obtain ⟨G, h1, _⟩ := h.get
  exact ⟨(Kd.R_reads' h1).1, (Kd.R_reads' h1).2.1⟩
theorem Sat.rowQC (h : Sat w0 w (RowQ d e (.slice A n c) xs :: L)) : d.C w A xs.length xs := by
  obtain ⟨G, h1, _⟩ := h.get
  exact (Kd.Q_reads' h1).2.2
end
end Go.Proofs.Ytnhfkiiknmnjgaa.Sl
