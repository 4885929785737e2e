/- What the printed functions of layer 3 on numbers come to: bits.Uvarint, bits.ReadUvarint, in the words of Uv. -/
import Derived.Test.YtmnlbedgkjnodaaDoorUv
import Derived.Test.YtmnlbedgkjnodaaDoorQBx5
import Derived.Test.YtmnlbedgkjnodaaDoorQBx19
import Derived.Laws.Bits64
namespace Go.Proofs.YtmnlbedgkjnodaaDoor.UvP
open Go.RowKit Go.Proofs.YtmnlbedgkjnodaaDoorW.PrintWords Go.Proofs.YtmnlbedgkjnodaaDoorW.PrintLast Go.Proofs.YtmnlbedgkjnodaaDoorW.PrintMore Go.Proofs.YtmnlbedgkjnodaaDoor.QB Go.Proofs.YtmnlbedgkjnodaaDoor.Uv
set_option linter.unusedVariables false
set_option linter.unusedSimpArgs false

theorem clone_f {l : List Int} (h : l.length < 140737488355328) : slices_Clone_byte_byte.f l = some l := by simp [slices_Clone_byte_byte.f, h]

theorem or128 : ∀ a : Nat, a < 256 → a ||| 128 = a % 128 + 128 := by decide +kernel
theorem byte_or128 (v : Nat) : Go.bits .or .u8 ((v : Int) % 256) 128 = ((v % 128 + 128 : Nat) : Int) := by
  have h := u8_or_nat (v % 256) 128 (by omega) (by omega)
  rw [or128 _ (by omega)] at h
  have e : (((v % 256 : Nat) : Int)) = (v : Int) % 256 := by omega
  rw [e] at h
  rw [show ((128 : Nat) : Int) = 128 from rfl] at h
  rw [h]
  congr 1
  omega

theorem bits_Uvarint_l0 (v : Nat) : ∀ (k : Nat) (acc : List Int), (uv v).length ≤ k → acc.length + k < 140737488355328 → bits_Uvarint.l0 k (v : Int) acc = some (acc ++ uv v) := by
  induction v using uv_induct with
  | h0 v h =>
    intro k acc hk ha
    rw [uv_small h] at hk ⊢
    obtain ⟨k, rfl⟩ : ∃ m, k = m + 1 := ⟨k - 1, by simp at hk; omega⟩
    simp only [bits_Uvarint.l0]
    rw [if_neg (by omega), if_pos (by omega), show (v : Int) % 256 = v from by omega]
  | h1 v h ih =>
    intro k acc hk ha
    rw [uv_big h] at hk ⊢
    simp only [List.length_cons] at hk
    obtain ⟨k, rfl⟩ : ∃ m, k = m + 1 := ⟨k - 1, by omega⟩
    simp only [bits_Uvarint.l0]
    rw [if_pos (by omega), if_pos (by omega), byte_or128, show (v : Int) / 128 = ((v / 128 : Nat) : Int) from by omega, ih k _ (by omega) (by simp; omega)]
    simp
theorem bits_Uvarint_f {v k : Nat} {l : List Int} (hv : v < 18446744073709551616) (hk : 10 ≤ k) (hk2 : k ≤ 1000000) (hl : l.length ≤ 140737480000000) : bits_Uvarint.f k l (v : Int) = some (l ++ uv v) := by
  unfold bits_Uvarint.f
  rw [clone_f (by omega)]
  simp only [Option.bind_some]
  exact bits_Uvarint_l0 v k l (Nat.le_trans (uv_length10 hv) hk) (by omega)
theorem or_shl0 {acc x i : Nat} (hi : i ≤ 9) (ha : acc < 2 ^ (7 * i)) (hx : x < 128) :
    Go.bits .or .u64 (acc : Int) (shl .u64 (x : Int) ((7 * i : Nat) : Int)) = ((acc + x * 2 ^ (7 * i) % 18446744073709551616 : Nat) : Int) := by
  have hp : (2 : Nat) ^ (7 * i) ≤ 2 ^ 63 := Nat.pow_le_pow_right (by omega) (by omega)
  have e : shl .u64 (x : Int) ((7 * i : Nat) : Int) = ((x * 2 ^ (7 * i) % 18446744073709551616 : Nat) : Int) := by
    unfold shl
    rw [IntKind.wrap_u64, Int.toNat_natCast, show IntKind.bits .u64 = 64 from rfl, Nat.min_eq_left (by omega), Int.natCast_emod, Int.natCast_mul, Int.natCast_pow]
    rfl
  rw [e, u64_or_nat _ _ (by omega) (Nat.mod_lt _ (by omega))]
  congr 1
  rw [Nat.or_comm, nat_join (7 * i) _ _ ?_ ha, Nat.add_comm]
  have hd : 2 ^ (7 * i) ∣ 18446744073709551616 := by
    have := Nat.pow_dvd_pow 2 (show 7 * i ≤ 64 by omega)
    rwa [show (2 : Nat) ^ 64 = 18446744073709551616 from rfl] at this
  rw [Nat.mod_mod_of_dvd _ hd]
  exact Nat.mul_mod_left _ _
theorem or_shl {acc c i : Nat} (hi : i ≤ 9) (ha : acc < 2 ^ (7 * i)) (hc : c < 256) (h9 : i = 9 → c ≤ 1) :
    Go.bits .or .u64 (acc : Int) (shl .u64 (IntKind.u64.wrap (Go.bits .and .u8 (c : Int) 127)) (IntKind.u64.wrap (wrap64 (7 * (i : Int))))) = ((acc + c % 128 * 2 ^ (7 * i) : Nat) : Int) := by
  have e1 : IntKind.u64.wrap (Go.bits .and .u8 (c : Int) 127) = ((c % 128 : Nat) : Int) := by
    have h := u8_and_nat c 127 hc (by omega)
    rw [nat_mask7] at h
    rw [show ((127 : Nat) : Int) = 127 from rfl] at h
    rw [h, IntKind.wrap_u64]
    omega
  have e2 : IntKind.u64.wrap (wrap64 (7 * (i : Int))) = ((7 * i : Nat) : Int) := by
    rw [IntKind.wrap_u64]
    unfold wrap64
    omega
  rw [e1, e2, or_shl0 hi ha (by omega), Nat.mod_eq_of_lt]
  rcases Nat.lt_or_ge i 9 with hlt | hge
  · have : (2 : Nat) ^ (7 * i) ≤ 2 ^ (7 * 8) := Nat.pow_le_pow_right (by omega) (by omega)
    have : c % 128 * 2 ^ (7 * i) ≤ 127 * 2 ^ (7 * 8) := Nat.mul_le_mul (by omega) this
    omega
  · have e : i = 9 := by omega
    subst e
    have : c ≤ 1 := h9 rfl
    have : c % 128 * 2 ^ (7 * 9) ≤ 1 * 2 ^ (7 * 9) := Nat.mul_le_mul_right _ (by omega)
    omega
def Bytes (l : List Int) : Prop := ∀ x ∈ l, 0 ≤ x ∧ x < 256
theorem rd_nat {l : List Int} {i : Nat} (h : i < l.length) : rd l (i : Int) = l[i] := by
  unfold rd
  rw [Int.toNat_natCast, List.getD_eq_getElem?_getD, List.getElem?_eq_getElem h]
  rfl

theorem wrap_nonneg (x : Int) : 0 ≤ IntKind.u64.wrap x := by
  rw [IntKind.wrap_u64]
  exact Int.emod_nonneg _ (by decide)
theorem wrap_succ {i : Nat} (h : i ≤ 2000) : wrap64 ((i : Int) + 1) = ((i + 1 : Nat) : Int) := by
  unfold wrap64
  omega
set_option maxHeartbeats 1000000 in
theorem bits_Read_l0 (l : List Int) (hb : Bytes l) (hl : l.length ≤ 140737488355328) : ∀ (d i acc k : Nat), i + d = 10 → acc < 2 ^ (7 * i) → 2 * d < k → (d = 0 → l.length ≤ i) →
    bits_ReadUvarint.l0 k (acc : Int) l (l.length : Int) (i : Int) = some (ruvGo i acc (l.drop i)) := by
  intro d
  induction d with
  | zero =>
    intro i acc k hi ha hk h0
    obtain ⟨k, rfl⟩ : ∃ m, k = m + 1 := ⟨k - 1, by omega⟩
    simp only [bits_ReadUvarint.l0]
    rw [if_neg (by have := h0 rfl; omega), List.drop_eq_nil_of_le (h0 rfl)]
    simp [ruvGo]
  | succ d ih =>
    intro i acc k hi ha hk _
    obtain ⟨k, rfl⟩ : ∃ m, k = m + 2 := ⟨k - 2, by omega⟩
    by_cases hlt : i < l.length
    · have hc := hb l[i] (List.getElem_mem hlt)
      obtain ⟨c, hce⟩ : ∃ c : Nat, l[i] = (c : Int) := ⟨l[i].toNat, by omega⟩
      have hcl : c < 256 := by omega
      rw [List.drop_eq_getElem_cons hlt, hce]
      simp only [bits_ReadUvarint.l0, bits_ReadUvarint.j1, ruvGo]
      rw [rd_nat hlt, hce, if_pos (by omega), if_pos (by omega), if_pos (by omega)]
      have hw := wrap_succ (show i ≤ 2000 by omega)
      have hs := wrap_nonneg (wrap64 (7 * (i : Int)))
      by_cases h9 : i = 9
      · rw [if_pos (by omega)]
        by_cases hc1 : (c : Int) > 1
        · rw [if_pos (by simpa using hc1), if_pos ⟨h9, hc1⟩]
        · rw [if_neg (by simpa using hc1), if_neg (show ¬ (i = 9 ∧ (c : Int) > 1) from fun h => hc1 h.2), if_pos hs]
          have h128 : (c : Int) < 128 := by omega
          rw [if_pos h128, if_pos h128, or_shl (by omega) ha hcl (by omega), hw]
          by_cases hz : (c : Int) = 0
          · rw [if_pos hz, if_pos (show (i : Int) > 0 from by omega), if_pos (show (c : Int) = 0 ∧ 0 < i from ⟨hz, by omega⟩)]
          · rw [if_neg hz, if_neg (show ¬ ((c : Int) = 0 ∧ 0 < i) from fun h => hz h.1), Int.toNat_natCast]
      · rw [if_neg (show ¬ ((i : Int) = 9) from by omega), if_neg (by simp), if_neg (show ¬ (i = 9 ∧ (c : Int) > 1) from fun h => h9 h.1), if_pos hs, or_shl (by omega) ha hcl (by omega), hw]
        by_cases h128 : (c : Int) < 128
        · rw [if_pos h128, if_pos h128]
          by_cases hz : (c : Int) = 0
          · rw [if_pos hz]
            by_cases hi0 : 0 < i
            · rw [if_pos (show (i : Int) > 0 from by omega), if_pos ⟨hz, hi0⟩]
            · rw [if_neg (show ¬ ((i : Int) > 0) from by omega), if_neg (show ¬ ((c : Int) = 0 ∧ 0 < i) from fun h => hi0 h.2), Int.toNat_natCast]
          · rw [if_neg hz, if_neg (show ¬ ((c : Int) = 0 ∧ 0 < i) from fun h => hz h.1), Int.toNat_natCast]
        · rw [if_neg h128, if_neg h128, Int.toNat_natCast]
          have hp := two7 i
          refine ih (i + 1) (acc + c % 128 * 2 ^ (7 * i)) k (by omega) ?_ (by omega) (by omega)
          rw [pow7]
          have : c % 128 * 2 ^ (7 * i) ≤ 127 * 2 ^ (7 * i) := Nat.mul_le_mul_right _ (by omega)
          omega
    · simp only [bits_ReadUvarint.l0]
      rw [if_neg (by omega), List.drop_eq_nil_of_le (by omega)]
      simp [ruvGo]
theorem bits_Read_f {l : List Int} {k : Nat} (hb : Bytes l) (hl : l.length ≤ 140737488355328) (hk : 21 ≤ k) : bits_ReadUvarint.f k l = some (ruv l) := by
  unfold bits_ReadUvarint.f ruv
  exact bits_Read_l0 l hb hl 10 0 0 k (by omega) (by omega) (by omega) (by omega)
end Go.Proofs.YtmnlbedgkjnodaaDoor.UvP
