/- Strings' order as one test each: '<=' is 'not less the other way round'. -/
import Derived.Tactics
import Derived.Laws.Strings
namespace Go.Proofs.Ytlngljhinboglaa.StrLq
theorem less_or (a b : List UInt8) : (Op.bytesLess a b || a == b) = !(Op.bytesLess b a) := by
  induction a generalizing b with
  | nil => cases b <;> rfl
  | cons x s ih =>
    cases b with
    | nil => rfl
    | cons y t =>
      have h := ih t
      simp only [Op.bytesLess]
      have e : (x :: s == y :: t) = (x == y && s == t) := rfl
      rw [e]
      by_cases h1 : x = y
      · subst h1
        have h2 : decide (x < x) = false := by simp
        have h3 : (x == x) = true := by simp
        rw [h2, h3]
        simpa using h
      · have h3 : (x == y) = false := by simpa using h1
        have h4 : (y == x) = false := by simpa using fun e => h1 e.symm
        rw [h3, h4]
        simp only [Bool.false_and, Bool.or_false]
        by_cases h5 : x < y
        · have h6 : ¬ y < x := by
            have := UInt8.lt_iff_toNat_lt.1 h5
            intro h
            have := UInt8.lt_iff_toNat_lt.1 h
            omega
          simp [h5, h6]
        · have h6 : y < x := by
            have h7 : ¬ x.toNat < y.toNat := fun h => h5 (UInt8.lt_iff_toNat_lt.2 h)
            have h8 : x.toNat ≠ y.toNat := fun h => h1 (UInt8.toNat_inj.1 h)
            exact UInt8.lt_iff_toNat_lt.2 (by omega)
          simp [h5, h6]
theorem str_leq (t : TypeId) (a b : ByteArray) : binOp .leq t (.string a) (.string b) = pure (.bool !(Op.bytesLess b.toList a.toList)) := by
  have h := less_or a.toList b.toList
  simp [binOp, Op.stringOp, h]
theorem str_gtr (t : TypeId) (a b : ByteArray) : binOp .gtr t (.string a) (.string b) = pure (.bool (Op.bytesLess b.toList a.toList)) := by
  have h := less_or a.toList b.toList
  simp [binOp, Op.stringOp, h]
theorem str_geq (t : TypeId) (a b : ByteArray) : binOp .geq t (.string a) (.string b) = pure (.bool !(Op.bytesLess a.toList b.toList)) := by simp [binOp, Op.stringOp]
end Go.Proofs.Ytlngljhinboglaa.StrLq
