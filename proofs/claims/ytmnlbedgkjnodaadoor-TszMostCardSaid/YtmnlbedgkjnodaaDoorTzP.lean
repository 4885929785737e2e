/- The codec of points in plain words: the bits of a time's change, of a value's, of a list of points. No program in sight. -/
import Derived.Test.YtmnlbedgkjnodaaDoorBt
import Derived.Lib.TrailingZeros
import Derived.Lib.BitFns
namespace Go.Proofs.YtmnlbedgkjnodaaDoor.TzP
open Go.RowKit Go.Proofs.YtmnlbedgkjnodaaDoor.Bt
set_option linter.unusedVariables false
set_option linter.unusedSimpArgs false

theorem bitLenAux_lt : ∀ (f x : Nat), x < 2 ^ f → x < 2 ^ Lib.bitLenAux f x
  | 0, x, h => by simpa [Lib.bitLenAux] using h
  | f + 1, x, h => by
    simp only [Lib.bitLenAux]
    split
    · rename_i h0
      rw [h0]
      simp
    · have := bitLenAux_lt f (x / 2) (by rw [Nat.pow_succ] at h; omega)
      rw [Nat.add_comm, Nat.pow_succ]
      omega
/-- Leading zeros, at most 31; trailing ones. -/
def lz (y : Nat) : Nat := min 31 (64 - Lib.bitLen y)
def tz (y : Nat) : Nat := Lib.ctz 64 y
theorem lz_le (y : Nat) : lz y ≤ 31 := by unfold lz; omega
theorem lz_lt {y : Nat} (h : y < 18446744073709551616) : y < 2 ^ (64 - lz y) := by
  have h1 : y < 2 ^ Lib.bitLen y := bitLenAux_lt 64 y h
  have h2 : Lib.bitLen y ≤ 64 := Lib.bitLen_le y 64 (by omega) h
  exact Nat.lt_of_lt_of_le h1 (Nat.pow_le_pow_right (by omega) (by unfold lz; omega))
theorem tz_low {y : Nat} (h0 : y ≠ 0) (h : y < 18446744073709551616) : ∃ m, y = 2 ^ tz y * (2 * m + 1) ∧ tz y < 64 := by
  have h1 := Lib.ctzFrom_spec 64 y (by omega) h
  unfold tz Lib.ctz
  rw [if_neg h0]
  exact h1
theorem tz_mod {y : Nat} (h0 : y ≠ 0) (h : y < 18446744073709551616) : y % 2 ^ tz y = 0 := by
  obtain ⟨m, h1, _⟩ := tz_low h0 h
  conv => lhs; lhs; rw [h1]
  exact Nat.mul_mod_right _ _
theorem lz_tz {y : Nat} (h0 : y ≠ 0) (h : y < 18446744073709551616) : lz y + tz y ≤ 63 := by
  obtain ⟨m, h1, _⟩ := tz_low h0 h
  have h2 := lz_lt h
  have h3 : 2 ^ tz y ≤ y := by
    have : 2 ^ tz y * 1 ≤ 2 ^ tz y * (2 * m + 1) := Nat.mul_le_mul_left _ (by omega)
    omega
  have h4 : 2 ^ tz y < 2 ^ (64 - lz y) := by omega
  have h5 := (Nat.pow_lt_pow_iff_right (by omega : 1 < 2)).1 h4
  have := lz_le y
  omega

/-- A window: none, or its two numbers. -/
abbrev Win := Option (Nat × Nat)
def wl : Win → Int
  | none => -1
  | some p => p.1
def wt : Win → Int
  | none => -1
  | some p => p.2
def Win.Ok (w : Win) : Prop := ∀ p, w = some p → p.1 ≤ 31 ∧ p.1 + p.2 ≤ 63
theorem Win.ok_none : Win.Ok none := fun _ h => by cases h
def fits (y : Nat) : Win → Bool
  | none => false
  | some p => decide (p.1 ≤ lz y) && decide (p.2 ≤ tz y)
/-- A time's change. -/
def timeB (x : Int) : List Int :=
  if x = 0 then bitsOf 0 1
  else if -63 ≤ x ∧ x ≤ 64 then bitsOf 2 2 ++ bitsOf (x + 63).toNat 7
  else if -255 ≤ x ∧ x ≤ 256 then bitsOf 6 3 ++ bitsOf (x + 255).toNat 9
  else if -2047 ≤ x ∧ x ≤ 2048 then bitsOf 14 4 ++ bitsOf (x + 2047).toNat 12
  else bitsOf 15 4 ++ bitsOf (x % 18446744073709551616).toNat 64
/-- A value's. -/
def valueB (y : Nat) (w : Win) : List Int × Win :=
  if y = 0 then (bitsOf 0 1, w)
  else if fits y w = true then (bitsOf 2 2 ++ bitsOf (y / 2 ^ (wt w).toNat) (64 - (wl w).toNat - (wt w).toNat), w)
  else (bitsOf 3 2 ++ bitsOf (lz y) 5 ++ bitsOf (63 - lz y - tz y) 6 ++ bitsOf (y / 2 ^ tz y) (64 - lz y - tz y), some (lz y, tz y))
theorem timeB_isBits (x : Int) : IsBits (timeB x) := by
  unfold timeB
  repeat' split
  all_goals first | exact bitsOf_isBits _ _ | exact (bitsOf_isBits _ _).append (bitsOf_isBits _ _)
theorem timeB_length (x : Int) : 1 ≤ (timeB x).length ∧ (timeB x).length ≤ 68 := by
  unfold timeB
  repeat' split
  all_goals simp [bitsOf_length]
theorem valueB_isBits (y : Nat) (w : Win) : IsBits (valueB y w).1 := by
  unfold valueB
  repeat' split
  all_goals first | exact bitsOf_isBits _ _ | exact (bitsOf_isBits _ _).append (bitsOf_isBits _ _) | exact (((bitsOf_isBits _ _).append (bitsOf_isBits _ _)).append (bitsOf_isBits _ _)).append (bitsOf_isBits _ _)
theorem valueB_length (y : Nat) (w : Win) : 1 ≤ (valueB y w).1.length ∧ (valueB y w).1.length ≤ 77 := by
  unfold valueB
  repeat' split
  all_goals simp [bitsOf_length]
  all_goals omega
theorem valueB_ok {y : Nat} (h : y < 18446744073709551616) {w : Win} (hw : w.Ok) : (valueB y w).2.Ok := by
  unfold valueB
  repeat' split
  · exact hw
  · exact hw
  · rename_i h0 _
    intro p hp
    cases hp
    exact ⟨lz_le y, lz_tz h0 h⟩
end Go.Proofs.YtmnlbedgkjnodaaDoor.TzP
