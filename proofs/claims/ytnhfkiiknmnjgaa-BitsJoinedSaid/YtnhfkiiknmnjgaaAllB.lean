/- Plain lemmas: the bits that a list of steps puts. -/
import Derived.Test.YtnhfkiiknmnjgaaTy3
import Derived.Test.YtnhfkiiknmnjgaaBtR
import Derived.Test.YtnhfkiiknmnjgaaRdW
namespace Go.Proofs.Ytnhfkiiknmnjgaa.AllB
open Go.RowKit Go.Proofs.YtnhfkiiknmnjgaaW.PrintWords Go.Proofs.YtnhfkiiknmnjgaaW.PrintLast Go.Proofs.YtnhfkiiknmnjgaaW.PrintMore Go.Proofs.Ytnhfkiiknmnjgaa.QB Go.Proofs.Ytnhfkiiknmnjgaa.Bt Go.Proofs.Ytnhfkiiknmnjgaa.WrW Go.Proofs.Ytnhfkiiknmnjgaa.RdW Go.Proofs.Ytnhfkiiknmnjgaa.BtR Go.Proofs.Ytnhfkiiknmnjgaa.Ty3
set_option linter.unusedVariables false
set_option linter.unusedSimpArgs false

/-- All bits that steps put. -/
def allBits (l : List S43) : List Int := (l.map fun s => bitsOf s.f0.toNat (cutN s.f1)).flatten
theorem allBits_snoc (l : List S43) (s : S43) : allBits (l ++ [s]) = allBits l ++ bitsOf s.f0.toNat (cutN s.f1) := by simp [allBits]
theorem allBits_isBits (l : List S43) : IsBits (allBits l) := by
  intro x hx
  simp only [allBits, List.mem_flatten, List.mem_map] at hx
  obtain ⟨a, ⟨s, _, rfl⟩, hx⟩ := hx
  exact bitsOf_isBits _ _ x hx
theorem allBits_length (l : List S43) : (allBits l).length ≤ 64 * l.length := by
  induction l with
  | nil => simp [allBits]
  | cons s l ih =>
    have e : allBits (s :: l) = bitsOf s.f0.toNat (cutN s.f1) ++ allBits l := rfl
    have := cutN_le s.f1
    rw [e, List.length_append, bitsOf_length, List.length_cons]
    omega

theorem allBits_append (a b : List S43) : allBits (a ++ b) = allBits a ++ allBits b := by simp [allBits]
theorem allBits_succ {l : List S43} {k vn : Nat} {nn : Int} (hk : k < l.length) (h : l[k] = ⟨(vn : Int), nn⟩) : allBits (l.take (k + 1)) = allBits (l.take k) ++ bitsOf vn (cutN nn) := by
  rw [List.take_succ_eq_append_getElem hk, allBits_snoc, h]
  rfl
/-- What stands at a step's place is the step's. -/
theorem allBits_get {l : List S43} {k vn : Nat} {nn : Int} (hk : k < l.length) (h : l[k] = ⟨(vn : Int), nn⟩) :
    (allBits (l.take k)).length + cutN nn ≤ (allBits l).length ∧ getN (pk (allBits l)) (allBits (l.take k)).length (cutN nn) = vn % 2 ^ cutN nn := by
  have e : allBits l = allBits (l.take k) ++ (bitsOf vn (cutN nn) ++ allBits (l.drop (k + 1))) := by
    rw [← List.append_assoc, ← allBits_succ hk h, ← allBits_append, List.take_append_drop]
  constructor
  · rw [e]
    simp only [List.length_append, bitsOf_length]
    omega
  · unfold getN
    rw [unpk_pk (allBits_isBits l)]
    generalize List.replicate (8 * (((allBits l).length + 7) / 8) - (allBits l).length) (0 : Int) = z
    rw [e, List.append_assoc, List.append_assoc, List.drop_left, List.take_left' (bitsOf_length _ _), num_bitsOf]
theorem pk_room (l : List Int) : 8 * (pk l).length - l.length < 8 ∧ l.length ≤ 8 * (pk l).length := by
  rw [pk_length]
  omega
end Go.Proofs.Ytnhfkiiknmnjgaa.AllB
