/- What the document's own printed functions on bits come to (Put, Bytes, Of, Get), in the words of Bt.
   What the document's own printed functions of layer 3 on numbers come to: Uvarint, ReadUvarint, in the words of Uv. -/
import Derived.Test.YtmnlbedgkjnodaaDoorZTszEven1
import Derived.Test.YtmnlbedgkjnodaaDoorZTszEven5
import Derived.Test.YtmnlbedgkjnodaaDoorZTszEven6
import Derived.Test.YtmnlbedgkjnodaaDoorZTszEven12
import Derived.Test.YtmnlbedgkjnodaaDoorZTszEven13
import Derived.Laws.Bits64
namespace Go.Proofs.YtmnlbedgkjnodaaDoor.BtR
open Go.RowKit Go.Proofs.YtmnlbedgkjnodaaDoorW.PrintWords Go.Proofs.YtmnlbedgkjnodaaDoorW.PrintLast Go.Proofs.YtmnlbedgkjnodaaDoorW.PrintMore Go.Proofs.YtmnlbedgkjnodaaDoor.QB Go.Proofs.YtmnlbedgkjnodaaDoor.Bt Go.Proofs.YtmnlbedgkjnodaaDoor.UvP Go.Proofs.YtmnlbedgkjnodaaDoor.WrW
set_option linter.unusedVariables false
set_option linter.unusedSimpArgs false

theorem ref_cut_f (n : Int) : thermographref03_cut.f n = some ((cutN n : Nat) : Int) := by
  unfold thermographref03_cut.f cutN mx mn
  congr 1
  split <;> split <;> omega
theorem cutN_le (n : Int) : cutN n ≤ 64 := by unfold cutN; omega
theorem bit_value (v i : Nat) (hv : v < 18446744073709551616) (hi : i ≤ 64) : Go.bits .and .u64 (shr .u64 (v : Int) (i : Int)) 1 % 256 = ((v / 2 ^ i % 2 : Nat) : Int) := by
  have e : shr .u64 (v : Int) (i : Int) = ((v / 2 ^ i : Nat) : Int) := by
    unfold shr
    rw [Int.toNat_natCast, show IntKind.bits .u64 = 64 from rfl, Nat.min_eq_left hi, Int.natCast_ediv, Int.natCast_pow]
    rfl
  have hle : v / 2 ^ i < 18446744073709551616 := Nat.lt_of_le_of_lt (Nat.div_le_self _ _) hv
  have h := u64_and_nat (v / 2 ^ i) 1 hle (by omega)
  rw [nat_mask1] at h
  rw [e, show (1 : Int) = ((1 : Nat) : Int) from rfl, h]
  omega
theorem ref_Put_l0 (v : Nat) (hv : v < 18446744073709551616) : ∀ (n k : Nat) (l : List Int), n ≤ 64 → n < k → l.length + n < 140737488355328 →
    thermographref03_Put.l0 k l (v : Int) ((n : Int) - 1) = some (l ++ bitsOf v n) := by
  intro n
  induction n with
  | zero =>
    intro k l _ hk _
    obtain ⟨k, rfl⟩ : ∃ m, k = m + 1 := ⟨k - 1, by omega⟩
    simp only [thermographref03_Put.l0]
    rw [if_neg (by omega)]
    simp [bitsOf]
  | succ n ih =>
    intro k l hn hk hl
    obtain ⟨k, rfl⟩ : ∃ m, k = m + 1 := ⟨k - 1, by omega⟩
    simp only [thermographref03_Put.l0]
    rw [if_pos (by omega), if_pos (by omega), if_pos (by omega), show (((n + 1 : Nat) : Int) - 1) = (n : Int) from by omega, bit_value v n hv (by omega)]
    rw [show wrap64 ((n : Int) - 1) = (n : Int) - 1 from by unfold wrap64; omega, ih k _ (by omega) (by omega) (by rw [List.length_append]; simp; omega)]
    simp [bitsOf]
theorem ref_Put_f {v k : Nat} {n : Int} {l : List Int} (hv : v < 18446744073709551616) (hk : 65 ≤ k) (hl : l.length ≤ 140737480000000) : thermographref03_Put.f k l (v : Int) n = some (l ++ bitsOf v (cutN n)) := by
  have hc := cutN_le n
  unfold thermographref03_Put.f
  rw [ref_cut_f]
  simp only [Option.bind_some]
  rw [show wrap64 (((cutN n : Nat) : Int) - 1) = ((cutN n : Nat) : Int) - 1 from by unfold wrap64; omega]
  exact ref_Put_l0 v hv (cutN n) k l hc (by omega) (by omega)

theorem or_bit (b0 x s : Nat) (hb : b0 < 256) (hx : x ≤ 1) (hs : s ≤ 7) (hlow : b0 % 2 ^ (s + 1) = 0) : Go.bits .or .u8 (b0 : Int) (shl .u8 (x : Int) (s : Int)) = ((b0 + x * 2 ^ s : Nat) : Int) := by
  have hp : (2 : Nat) ^ s ≤ 2 ^ 7 := Nat.pow_le_pow_right (by omega) hs
  have hp0 : 0 < (2 : Nat) ^ s := Nat.pow_pos (by omega)
  have hxs : x * 2 ^ s ≤ 1 * 2 ^ s := Nat.mul_le_mul_right _ hx
  have e : shl .u8 (x : Int) (s : Int) = ((x * 2 ^ s : Nat) : Int) := by
    unfold shl
    rw [Int.toNat_natCast, show IntKind.bits .u8 = 8 from rfl, Nat.min_eq_left (by omega), IntKind.wrap_u8, show (x : Int) * 2 ^ s = ((x * 2 ^ s : Nat) : Int) from by rw [Int.natCast_mul, Int.natCast_pow]; rfl]
    omega
  rw [e, u8_or_nat _ _ hb (by omega)]
  congr 1
  exact nat_join (s + 1) _ _ hlow (by rw [Nat.pow_succ]; omega)
theorem wrap_one (i : Nat) {l : List Int} (hl : l.length ≤ 1099511627776) (hi : i < l.length) : wrap64 ((i : Int) + 1) = ((i + 1 : Nat) : Int) := by
  unfold wrap64
  omega
theorem ref_Bytes_l0 (l : List Int) (hb : IsBits l) (hl : l.length ≤ 1099511627776) : ∀ (d i k : Nat), i + d = l.length → d < k →
    thermographref03_Bytes.l0 k l (pk (l.take i) ++ List.replicate ((l.length + 7) / 8 - (pk (l.take i)).length) 0) (i : Int) = some (pk l) := by
  intro d
  induction d with
  | zero =>
    intro i k hi hk
    obtain ⟨k, rfl⟩ : ∃ m, k = m + 1 := ⟨k - 1, by omega⟩
    simp only [thermographref03_Bytes.l0]
    rw [if_neg (by omega), List.take_of_length_le (by omega), pk_length, Nat.sub_self]
    simp
  | succ d ih =>
    intro i k hi hk
    obtain ⟨k, rfl⟩ : ∃ m, k = m + 1 := ⟨k - 1, by omega⟩
    have hlt : i < l.length := by omega
    have htl : (l.take i).length = i := by rw [List.length_take]; omega
    have hpl : (pk (l.take i)).length = (i + 7) / 8 := by rw [pk_length, htl]
    have hx := hb _ (List.getElem_mem hlt)
    obtain ⟨x, hxe⟩ : ∃ x : Nat, l[i] = (x : Int) := ⟨l[i].toNat, by rcases hx with h | h <;> rw [h] <;> rfl⟩
    have hx1 : x ≤ 1 := by rcases hx with h | h <;> rw [hxe] at h <;> omega
    have e1 : wrap64 (Int.tdiv (i : Int) 8) = ((i / 8 : Nat) : Int) := by
      rw [Int.tdiv_eq_ediv_of_nonneg (by omega)]; unfold wrap64; omega
    have e2 : wrap64 (7 - Int.tmod (i : Int) 8) = ((7 - i % 8 : Nat) : Int) := by
      rw [Int.tmod_eq_emod_of_nonneg (by omega)]; unfold wrap64; omega
    have hts : l.take (i + 1) = l.take i ++ [l[i]] := List.take_succ_eq_append_getElem hlt
    simp only [thermographref03_Bytes.l0]
    rw [e1, e2, if_pos (by omega), if_pos (by omega), if_pos (by rw [List.length_append, List.length_replicate, hpl]; omega), if_pos (by omega), if_pos (by omega), rd_nat hlt, hxe, Int.toNat_natCast, wrap_one i hl hlt]
    have hnext : pk (l.take (i + 1)) ++ List.replicate ((l.length + 7) / 8 - (pk (l.take (i + 1))).length) 0 = (pk (l.take i) ++ List.replicate ((l.length + 7) / 8 - (pk (l.take i)).length) 0).set (i / 8) (Go.bits .or .u8 (rd (pk (l.take i) ++ List.replicate ((l.length + 7) / 8 - (pk (l.take i)).length) 0) ((i / 8 : Nat) : Int)) (shl .u8 (x : Int) ((7 - i % 8 : Nat) : Int))) := by
      by_cases h8 : i % 8 = 0
      · have hp8 : (pk (l.take i)).length = i / 8 := by rw [hpl]; omega
        obtain ⟨m, hm⟩ : ∃ m, (l.length + 7) / 8 - i / 8 = m + 1 := ⟨(l.length + 7) / 8 - i / 8 - 1, by omega⟩
        have e3 : rd (pk (l.take i) ++ List.replicate ((l.length + 7) / 8 - (pk (l.take i)).length) 0) ((i / 8 : Nat) : Int) = ((0 : Nat) : Int) := by
          unfold rd
          rw [Int.toNat_natCast, List.getD_eq_getElem?_getD, List.getElem?_append_right (by omega), hp8, hm, Nat.sub_self]
          rfl
        rw [e3, or_bit 0 x (7 - i % 8) (by omega) hx1 (by omega) (Nat.zero_mod _), hts, pk_new (by simp) (by simp) _ (by rw [htl]; exact h8), hxe, List.length_append, hp8, hm]
        rw [List.set_append_right _ _ (by omega), hp8, Nat.sub_self, List.replicate_succ, List.set_cons_zero, List.length_singleton, show (l.length + 7) / 8 - (i / 8 + 1) = m from by omega, List.append_assoc]
        congr 1
        simp [Bt.byteOf, num, h8]
      · have hp8 : (pk (l.take i)).length = i / 8 + 1 := by rw [hpl]; omega
        obtain ⟨nb, b0, hnb, hb0, hb1, hb2, hfin⟩ := put_room (l.take i) (hb.take i) (by rw [htl]; exact h8)
        have hnb' : nb = i / 8 := by omega
        subst hnb'
        rw [htl] at hb2 hfin
        have e3 : rd (pk (l.take i) ++ List.replicate ((l.length + 7) / 8 - (pk (l.take i)).length) 0) ((i / 8 : Nat) : Int) = (b0 : Int) := by
          unfold rd
          rw [Int.toNat_natCast, List.getD_eq_getElem?_getD, List.getElem?_append_left (by omega), ← List.getD_eq_getElem?_getD, hb0]
        have h1 := hfin [l[i]] (by simp; omega)
        rw [e3, or_bit b0 x (7 - i % 8) hb1 hx1 (by omega) (by rw [show 7 - i % 8 + 1 = 8 - i % 8 from by omega]; exact hb2), hts, ← h1, List.set_append_left _ _ (by omega), List.length_set]
        rw [List.length_singleton, show 8 - i % 8 - 1 = 7 - i % 8 from by omega, hxe]
        simp [num]
    rw [← hnext]
    exact ih (i + 1) k (by omega) (by omega)
theorem ref_Bytes_f {k : Nat} {l : List Int} (hb : IsBits l) (hl : l.length ≤ 1099511627776) (hk : l.length < k) : thermographref03_Bytes.f k l = some (pk l) := by
  have e : wrap64 (Int.tdiv (wrap64 ((l.length : Int) + 7)) 8) = (((l.length + 7) / 8 : Nat) : Int) := by
    rw [show wrap64 ((l.length : Int) + 7) = (l.length : Int) + 7 from by unfold wrap64; omega, Int.tdiv_eq_ediv_of_nonneg (by omega)]
    unfold wrap64
    omega
  unfold thermographref03_Bytes.f
  rw [e, if_pos (by omega), Int.toNat_natCast, if_pos (by omega)]
  have := ref_Bytes_l0 l hb hl l.length 0 k (by omega) hk
  simpa [pk_nil] using this
end Go.Proofs.YtmnlbedgkjnodaaDoor.BtR
namespace Go.Proofs.YtmnlbedgkjnodaaDoor.UvR
open Go.RowKit Go.Proofs.YtmnlbedgkjnodaaDoorW.PrintWords Go.Proofs.YtmnlbedgkjnodaaDoorW.PrintLast Go.Proofs.YtmnlbedgkjnodaaDoorW.PrintMore Go.Proofs.YtmnlbedgkjnodaaDoor.QB Go.Proofs.YtmnlbedgkjnodaaDoor.Uv Go.Proofs.YtmnlbedgkjnodaaDoor.UvP
set_option linter.unusedVariables false
set_option linter.unusedSimpArgs false

theorem ref_Uvarint_l0 (v : Nat) : ∀ (k : Nat) (acc : List Int), v < 18446744073709551616 → (uv v).length ≤ k → acc.length + k < 140737488355328 → thermographref03_Uvarint.l0 k (v : Int) acc = some (acc ++ uv v) := by
  induction v using uv_induct with
  | h0 v h =>
    intro k acc _ hk ha
    rw [uv_small h] at hk ⊢
    obtain ⟨k, rfl⟩ : ∃ m, k = m + 1 := ⟨k - 1, by simp at hk; omega⟩
    simp only [thermographref03_Uvarint.l0]
    rw [if_neg (by omega), if_pos (by omega), show (v : Int) % 256 = v from by omega]
  | h1 v h ih =>
    intro k acc hv hk ha
    rw [uv_big h] at hk ⊢
    simp only [List.length_cons] at hk
    obtain ⟨k, rfl⟩ : ∃ m, k = m + 1 := ⟨k - 1, by omega⟩
    simp only [thermographref03_Uvarint.l0]
    have e1 : IntKind.u64.wrap (Int.tdiv (v : Int) 128) = ((v / 128 : Nat) : Int) := by
      rw [Int.tdiv_eq_ediv_of_nonneg (by omega), IntKind.wrap_u64]; omega
    have e2 : IntKind.u64.wrap (Int.tmod (v : Int) 128 + 128) % 256 = ((v % 128 + 128 : Nat) : Int) := by
      rw [Int.tmod_eq_emod_of_nonneg (by omega), IntKind.wrap_u64]; omega
    rw [if_pos (by omega), if_pos (by omega), e1, e2, ih k _ (by omega) (by omega) (by simp; omega)]
    simp
theorem ref_Uvarint_f {v k : Nat} {l : List Int} (hv : v < 18446744073709551616) (hk : 10 ≤ k) (hk2 : k ≤ 1000000) (hl : l.length ≤ 140737480000000) : thermographref03_Uvarint.f k l (v : Int) = some (l ++ uv v) := by
  unfold thermographref03_Uvarint.f
  simp only [Option.bind_some, List.nil_append, List.length_nil]
  rw [if_pos (by omega)]
  exact ref_Uvarint_l0 v k l hv (Nat.le_trans (uv_length10 hv) hk) (by omega)

theorem or_shl_ref {acc c i : Nat} (hi : i ≤ 9) (ha : acc < 2 ^ (7 * i)) (hc : c < 256) :
    Go.bits .or .u64 (acc : Int) (shl .u64 (IntKind.u64.wrap (Int.tmod (c : Int) 128)) (wrap64 (7 * (i : Int)))) = ((acc + c % 128 * 2 ^ (7 * i) % 18446744073709551616 : Nat) : Int) := by
  have e1 : IntKind.u64.wrap (Int.tmod (c : Int) 128) = ((c % 128 : Nat) : Int) := by
    rw [Int.tmod_eq_emod_of_nonneg (by omega), IntKind.wrap_u64]
    omega
  have e2 : wrap64 (7 * (i : Int)) = ((7 * i : Nat) : Int) := by
    unfold wrap64
    omega
  rw [e1, e2, or_shl0 hi ha (by omega)]

end Go.Proofs.YtmnlbedgkjnodaaDoor.UvR
