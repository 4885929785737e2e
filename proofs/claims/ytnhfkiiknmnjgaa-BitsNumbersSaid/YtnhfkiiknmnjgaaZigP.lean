/- Plain lemmas on zig and zag: what the exclusive or of a number with all ones, or with nothing, is. -/
import Derived.Test.YtnhfkiiknmnjgaaUv
import Derived.Test.YtnhfkiiknmnjgaaQBx1
import Derived.Laws.Bits64
namespace Go.Proofs.Ytnhfkiiknmnjgaa.ZigP
open Go.RowKit Go.Proofs.YtnhfkiiknmnjgaaW.PrintWords Go.Proofs.YtnhfkiiknmnjgaaW.PrintLast Go.Proofs.YtnhfkiiknmnjgaaW.PrintMore Go.Proofs.Ytnhfkiiknmnjgaa.QB
set_option linter.unusedVariables false
set_option linter.unusedSimpArgs false

theorem xor_zero_u64 (a : Nat) (h : a < 18446744073709551616) : Go.bits .xor .u64 (a : Int) 0 = (a : Int) := by
  have := u64_xor_nat a 0 h (by omega)
  simpa using this
theorem nat_xor_ones (a : Nat) (h : a < 2 ^ 64) : a ^^^ (2 ^ 64 - 1) = 2 ^ 64 - 1 - a := by
  have h1 : (BitVec.ofNat 64 a ^^^ BitVec.allOnes 64).toNat = (~~~ (BitVec.ofNat 64 a)).toNat := by rw [BitVec.xor_allOnes]
  rw [BitVec.toNat_xor, BitVec.toNat_not, BitVec.toNat_allOnes, BitVec.toNat_ofNat, Nat.mod_eq_of_lt h] at h1
  exact h1
theorem xor_ones_u64 (a : Nat) (h : a < 18446744073709551616) : Go.bits .xor .u64 (a : Int) 18446744073709551615 = 18446744073709551615 - (a : Int) := by
  have h1 := u64_xor_nat a 18446744073709551615 h (by omega)
  have h2 := nat_xor_ones a h
  rw [show (2 : Nat) ^ 64 - 1 = 18446744073709551615 from rfl] at h2
  rw [h2] at h1
  rw [show ((18446744073709551615 : Nat) : Int) = 18446744073709551615 from rfl] at h1
  rw [h1]
  omega
theorem xor_zero_i64 (a : Int) (h0 : -9223372036854775808 ≤ a) (h1 : a < 9223372036854775808) : Go.bits .xor .i64 a 0 = a := by
  unfold Go.bits
  simp only [IntKind.wrap_i64]
  rw [show BitVec.ofInt (IntKind.bits .i64) 0 = 0#64 from rfl]
  show (((BitVec.ofInt 64 a ^^^ 0#64).toNat : Int) + 9223372036854775808) % 18446744073709551616 - 9223372036854775808 = a
  rw [BitVec.xor_zero, BitVec.toNat_ofInt]
  omega
theorem xor_ones_i64 (a : Int) (h0 : -9223372036854775808 ≤ a) (h1 : a < 9223372036854775808) : Go.bits .xor .i64 a (-1) = -a - 1 := by
  unfold Go.bits
  simp only [IntKind.wrap_i64]
  rw [show BitVec.ofInt (IntKind.bits .i64) (-1) = BitVec.allOnes 64 from rfl]
  show (((BitVec.ofInt 64 a ^^^ BitVec.allOnes 64).toNat : Int) + 9223372036854775808) % 18446744073709551616 - 9223372036854775808 = -a - 1
  rw [BitVec.xor_allOnes, BitVec.toNat_not, BitVec.toNat_ofInt]
  omega

/-- Zig and Zag, said plainly. -/
def zig (n : Int) : Int := if 0 ≤ n then 2 * n else -2 * n - 1
def zag (v : Int) : Int := if v % 2 = 0 then v / 2 else -(v / 2) - 1
theorem bits_Zig_f (n : Int) (h0 : -9223372036854775808 ≤ n) (h1 : n < 9223372036854775808) : bits_Zig.f n = some (zig n) := by
  unfold bits_Zig.f zig
  rw [IntKind.wrap_u64, IntKind.wrap_u64, IntKind.wrap_u64]
  by_cases h : 0 ≤ n
  · rw [if_pos h, show n / 9223372036854775808 % 18446744073709551616 = 0 from by omega, show n % 18446744073709551616 * 2 % 18446744073709551616 = ((2 * n.toNat : Nat) : Int) from by omega, xor_zero_u64 _ (by omega)]
    congr 1
    omega
  · rw [if_neg h, show n / 9223372036854775808 % 18446744073709551616 = 18446744073709551615 from by omega, show n % 18446744073709551616 * 2 % 18446744073709551616 = (((2 * n + 18446744073709551616).toNat : Nat) : Int) from by omega, xor_ones_u64 _ (by omega)]
    congr 1
    omega
theorem ref_Zig_f (n : Int) (h0 : -9223372036854775808 ≤ n) (h1 : n < 9223372036854775808) : thermographref03_Zig.f n = some (zig n) := by
  unfold thermographref03_Zig.f zig
  simp only [IntKind.wrap_u64]
  unfold wrap64
  by_cases h : 0 ≤ n
  · rw [if_pos h, if_pos h]
    congr 1
    omega
  · rw [if_neg h, if_neg h]
    congr 1
    omega
theorem and_one_u64 (v : Int) (h0 : 0 ≤ v) (h1 : v < 18446744073709551616) : Go.bits .and .u64 v 1 = v % 2 := by
  have h := u64_and v 1 h0 h1 (by omega) (by omega)
  rw [show Int.toNat 1 = 1 from rfl, nat_mask1] at h
  rw [h]
  omega
theorem bits_Zag_f (v : Int) (h0 : 0 ≤ v) (h1 : v < 18446744073709551616) : bits_Zag.f v = some (zag v) := by
  unfold bits_Zag.f zag
  rw [and_one_u64 v h0 h1]
  unfold wrap64
  by_cases h : v % 2 = 0
  · rw [if_pos h, h, show (-((0 + 9223372036854775808 : Int) % 18446744073709551616 - 9223372036854775808) + 9223372036854775808) % 18446744073709551616 - 9223372036854775808 = 0 from by omega, xor_zero_i64 _ (by omega) (by omega)]
    congr 1
    omega
  · rw [if_neg h, show v % 2 = 1 from by omega, show (-((1 + 9223372036854775808 : Int) % 18446744073709551616 - 9223372036854775808) + 9223372036854775808) % 18446744073709551616 - 9223372036854775808 = -1 from by omega, xor_ones_i64 _ (by omega) (by omega)]
    congr 1
    omega
theorem zag_zig (n : Int) : zag (zig n) = n := by
  unfold zag zig
  split <;> split <;> omega
theorem zig_zag (v : Int) (h : 0 ≤ v) : zig (zag v) = v := by
  unfold zag zig
  split <;> split <;> omega
end Go.Proofs.Ytnhfkiiknmnjgaa.ZigP
