/- The plain law of BitsZigs: for every int n and every uint64 v, zag of zig of n is n, zig of zag of v is v, zig is the document's, and small ones stay small. No condition. -/
import Derived.Test.YtnhfkiiknmnjgaaQBx1
import Derived.Test.YtnhfkiiknmnjgaaZigP
namespace Go.Proofs.Ytnhfkiiknmnjgaa.Pure
open Go.RowKit Go.Proofs.Ytnhfkiiknmnjgaa.QB Go.Proofs.YtnhfkiiknmnjgaaW.PrintWords Go.Proofs.YtnhfkiiknmnjgaaW.PrintLast Go.Proofs.Ytnhfkiiknmnjgaa.ZigP
set_option linter.unusedVariables false
set_option linter.unusedSimpArgs false

theorem BitsZigs : thermographlaw03_BitsZigs.Pure := by
  intro n v hn hv
  have hn' : -9223372036854775808 ≤ n ∧ n < 9223372036854775808 := by
    simp [Lit.wf, IntKind.min, IntKind.max, IntKind.signed, IntKind.bits] at hn
    omega
  have hv' : 0 ≤ v ∧ v < 18446744073709551616 := by
    simp [Lit.wf, IntKind.min, IntKind.max, IntKind.signed, IntKind.bits] at hv
    omega
  have hz : 0 ≤ zig n ∧ zig n < 18446744073709551616 := by unfold zig; split <;> omega
  have hg : -9223372036854775808 ≤ zag v ∧ zag v < 9223372036854775808 := by unfold zag; split <;> omega
  unfold thermographlaw03_BitsZigs.f
  rw [bits_Zig_f n hn'.1 hn'.2]
  simp only [Option.bind_some]
  rw [bits_Zag_f _ hz.1 hz.2]
  simp only [Option.bind_some]
  rw [if_pos (zag_zig n), bits_Zag_f v hv'.1 hv'.2]
  simp only [Option.bind_some]
  rw [bits_Zig_f _ hg.1 hg.2]
  simp only [Option.bind_some]
  rw [if_pos (zig_zag v hv'.1), ref_Zig_f n hn'.1 hn'.2]
  simp only [Option.bind_some]
  rw [if_pos trivial]
  by_cases h0 : n < 0
  · rw [if_pos h0]
  · rw [if_neg h0]
    by_cases h1 : n > 1099511627776
    · rw [if_pos h1]
    · rw [if_neg h1, IntKind.wrap_u64]
      have e : zig n = wrap64 (2 * n) % 18446744073709551616 := by
        unfold zig wrap64
        rw [if_pos (by omega)]
        omega
      rw [← e]
      simp
end Go.Proofs.Ytnhfkiiknmnjgaa.Pure
