/- What the document's printed Of and Get come to, in the words of Bt. -/
import Derived.Test.YtnhfkiiknmnjgaaBtR
import Derived.Test.YtnhfkiiknmnjgaaRdW
import Derived.Test.YtnhfkiiknmnjgaaGetQ
namespace Go.Proofs.Ytnhfkiiknmnjgaa.BtR
open Go.RowKit Go.Proofs.YtnhfkiiknmnjgaaW.PrintWords Go.Proofs.YtnhfkiiknmnjgaaW.PrintLast Go.Proofs.YtnhfkiiknmnjgaaW.PrintMore Go.Proofs.Ytnhfkiiknmnjgaa.QB Go.Proofs.Ytnhfkiiknmnjgaa.Bt Go.Proofs.Ytnhfkiiknmnjgaa.UvP Go.Proofs.Ytnhfkiiknmnjgaa.WrW
set_option linter.unusedVariables false
set_option linter.unusedSimpArgs false

theorem unpk_nil : unpk [] = [] := rfl
theorem unpk_one (x : Int) : unpk [x] = bitsOf x.toNat 8 := by rw [unpk_cons, unpk_nil, List.append_nil]
theorem ref_Of_l0 (b : List Int) (hb : ∀ x ∈ b, 0 ≤ x ∧ x < 256) (hl : b.length ≤ 1099511627776) : ∀ (d i k : Nat), i + d = b.length → d + 66 < k →
    thermographref03_Of.l0 k b (unpk (b.take i)) (i : Int) = some (unpk b) := by
  intro d
  induction d with
  | zero =>
    intro i k hi hk
    obtain ⟨k, rfl⟩ : ∃ m, k = m + 1 := ⟨k - 1, by omega⟩
    simp only [thermographref03_Of.l0]
    rw [if_neg (by omega), List.take_of_length_le (by omega)]
  | succ d ih =>
    intro i k hi hk
    obtain ⟨k, rfl⟩ : ∃ m, k = m + 1 := ⟨k - 1, by omega⟩
    have hlt : i < b.length := by omega
    have hr := hb _ (List.getElem_mem hlt)
    obtain ⟨x, hx⟩ : ∃ x : Nat, b[i] = (x : Int) := ⟨b[i].toNat, by omega⟩
    have e : IntKind.u64.wrap (rd b (i : Int)) = (x : Int) := by rw [rd_nat hlt, hx, IntKind.wrap_u64]; omega
    have hlen : (unpk (b.take i)).length ≤ 140737480000000 := by rw [unpk_length, List.length_take]; omega
    have hp := ref_Put_f (v := x) (k := k) (n := 8) (l := unpk (b.take i)) (by omega) (by omega) hlen
    have h8 : cutN 8 = 8 := rfl
    simp only [thermographref03_Of.l0]
    rw [if_pos (by omega), if_pos (by omega), e, hp, h8, wrap_one i hl hlt]
    have hn : unpk (b.take i) ++ bitsOf x 8 = unpk (b.take (i + 1)) := by
      rw [List.take_succ_eq_append_getElem hlt, unpk_append, unpk_one, hx]
      rfl
    rw [hn]
    exact ih (i + 1) k (by omega) (by omega)
theorem ref_Of_f {b : List Int} {k : Nat} (hb : ∀ x ∈ b, 0 ≤ x ∧ x < 256) (hl : b.length ≤ 1099511627776) (hk : b.length + 66 < k) : thermographref03_Of.f k b = some (unpk b) := by
  unfold thermographref03_Of.f
  have := ref_Of_l0 b hb hl b.length 0 k (by omega) hk
  simpa [unpk_nil] using this

set_option maxHeartbeats 2000000 in
theorem ref_Get_l0 (l : List Int) (hb : IsBits l) (c : Nat) (hc : c ≤ 64) (hcl : c ≤ l.length) (hl : l.length ≤ 140737488355328) : ∀ (d i k : Nat), i + d = c → d < k →
    thermographref03_Get.l0 k l (c : Int) ((num (l.take i) : Nat) : Int) (i : Int) = some (((num (l.take c) : Nat) : Int), l.drop c, true) := by
  intro d
  induction d with
  | zero =>
    intro i k hi hk
    obtain ⟨k, rfl⟩ : ∃ m, k = m + 1 := ⟨k - 1, by omega⟩
    obtain rfl : i = c := by omega
    have c1 : ¬ (i : Int) < (i : Int) := by omega
    have c2 : (0 : Int) ≤ (i : Int) := by omega
    have c3 : (i : Int) ≤ (l.length : Int) := by omega
    simp only [thermographref03_Get.l0]
    rw [if_neg c1, if_pos c2, if_pos c3, Int.toNat_natCast]
  | succ d ih =>
    intro i k hi hk
    obtain ⟨k, rfl⟩ : ∃ m, k = m + 1 := ⟨k - 1, by omega⟩
    have hlt : i < l.length := by omega
    have c1 : (i : Int) < (c : Int) := by omega
    have c2 : (0 : Int) ≤ (i : Int) := by omega
    have c3 : (i : Int) < (l.length : Int) := by omega
    have hic : i + 1 + d = c := by omega
    have hdk : d < k := by omega
    have ew : wrap64 ((i : Int) + 1) = ((i + 1 : Nat) : Int) := by unfold wrap64; omega
    have hx := hb _ (List.getElem_mem hlt)
    obtain ⟨x, hxe, hx1⟩ : ∃ x : Nat, l[i] = (x : Int) ∧ x ≤ 1 := by exact hx.elim (fun h => ⟨0, h, by omega⟩) (fun h => ⟨1, h, by omega⟩)
    have hn := num_lt (hb.take i)
    have hn2 : num (l.take i) < 9223372036854775808 := Nat.lt_of_lt_of_le hn (Nat.le_trans (Nat.pow_le_pow_right (by omega) (show (l.take i).length ≤ 63 by rw [List.length_take]; omega)) (by omega))
    have hs : num (l.take (i + 1)) = num (l.take i) * 2 + x := by
      rw [List.take_succ_eq_append_getElem hlt, num_snoc, hxe]
      rfl
    have e : IntKind.u64.wrap (IntKind.u64.wrap (((num (l.take i) : Nat) : Int) * 2) + IntKind.u64.wrap (rd l (i : Int))) = ((num (l.take (i + 1)) : Nat) : Int) := by
      rw [rd_nat hlt, hxe, IntKind.wrap_u64, IntKind.wrap_u64, IntKind.wrap_u64, hs]
      clear hb hl ih ew c1 c2 c3 hn hs hxe hi hk hc hcl
      generalize num (l.take i) = z at *
      omega
    simp only [thermographref03_Get.l0]
    rw [if_pos c1, if_pos c2, if_pos c3, e, ew]
    exact ih (i + 1) k hic hdk
theorem ref_Get_ok {l : List Int} {n : Int} {k : Nat} (hb : IsBits l) (hl : l.length ≤ 140737488355328) (hk : 65 < k) (hle : cutN n ≤ l.length) :
    thermographref03_Get.f k l n = some (((num (l.take (cutN n)) : Nat) : Int), l.drop (cutN n), true) := by
  have hc := cutN_le n
  unfold thermographref03_Get.f
  rw [ref_cut_f]
  simp only [Option.bind_some]
  rw [if_neg (by omega)]
  have := ref_Get_l0 l hb (cutN n) hc hle hl (cutN n) 0 k (by omega) (by omega)
  simpa [num_nil] using this
theorem ref_Get_none {l : List Int} {n : Int} {k : Nat} (hle : ¬ cutN n ≤ l.length) : thermographref03_Get.f k l n = some (0, l, false) := by
  unfold thermographref03_Get.f
  rw [ref_cut_f]
  simp only [Option.bind_some]
  rw [if_pos (by omega)]
end Go.Proofs.Ytnhfkiiknmnjgaa.BtR
