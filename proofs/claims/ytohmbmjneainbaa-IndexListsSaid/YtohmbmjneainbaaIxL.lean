/- Plain lemmas: the document's List of bytes is what index.List tells. -/
import Derived.Test.YtohmbmjneainbaaIlW
import Derived.Test.YtohmbmjneainbaaRuQ
import Derived.Test.YtohmbmjneainbaaQBx19
namespace Go.Proofs.Ytohmbmjneainbaa.IxL
open Go.RowKit Go.Proofs.YtohmbmjneainbaaW.PrintWords Go.Proofs.YtohmbmjneainbaaW.PrintLast Go.Proofs.YtohmbmjneainbaaW.PrintMore Go.Proofs.Ytohmbmjneainbaa.QB Go.Proofs.Ytohmbmjneainbaa.Uv Go.Proofs.Ytohmbmjneainbaa.UvP Go.Proofs.Ytohmbmjneainbaa.IxP Go.Proofs.Ytohmbmjneainbaa.IrW
set_option linter.unusedVariables false
set_option linter.unusedSimpArgs false

theorem rdNum_some {b : List Int} (hb : Bytes b) {v : Nat} {t : List Int} (h : rdNum b = some (v, t)) : ∃ n : Nat, 0 < n ∧ n ≤ b.length ∧ t = b.drop n ∧ v ≤ 2147483647 ∧ ruv b = ((v : Int), (n : Int)) := by
  obtain ⟨v', n, hv, hn, hl⟩ := ruv_parts hb
  unfold rdNum at h
  rw [hv] at h
  simp only at h
  split at h
  · cases h
  · rename_i hz
    simp only [Option.some.injEq, Prod.mk.injEq, Int.toNat_natCast] at h
    obtain ⟨rfl, rfl⟩ := h
    exact ⟨n, by omega, hn, rfl, by omega, hv⟩
theorem rdNum_none {b : List Int} (hb : Bytes b) (h : rdNum b = none) : ((ruv b).2 = 0 ∧ (ruv b).1 = 0) ∨ 2147483647 < (ruv b).1 := by
  rcases ruv_cases hb with ⟨h1, _⟩ | ⟨v, t, h1, h2, h3⟩
  · left; rw [h1]; exact ⟨rfl, rfl⟩
  · right
    unfold rdNum at h
    rw [h3] at h ⊢
    simp only at h ⊢
    split at h
    · rename_i hz
      have := uv_pos v
      omega
    · cases h
theorem number_some {b : List Int} (hb : Bytes b) (hl : b.length ≤ 1099511627776) {v : Nat} {t : List Int} (h : rdNum b = some (v, t)) (k : Nat) : ∃ n : Nat, 0 < n ∧ n ≤ b.length ∧ t = b.drop n ∧ v ≤ 2147483647 ∧ thermographref08_number.f k b = some ((v : Int), (n : Int)) := by
  obtain ⟨n, h1, h2, h3, h4, h5⟩ := rdNum_some hb h
  refine ⟨n, h1, h2, h3, h4, ?_⟩
  unfold thermographref08_number.f
  rw [thermographref03_ReadUvarint.f_eq hb hl, h5]
  simp only [Option.bind_some]
  rw [if_neg (by omega), show wrap64 (v : Int) = (v : Int) by unfold wrap64; omega]
theorem number_no {b : List Int} (hb : Bytes b) (hl : b.length ≤ 1099511627776) (h : rdNum b = none) (k : Nat) : thermographref08_number.f k b = some (0, 0) := by
  unfold thermographref08_number.f
  rw [thermographref03_ReadUvarint.f_eq hb hl]
  simp only [Option.bind_some]
  rcases rdNum_none hb h with ⟨h1, h2⟩ | h1
  · rw [h1, h2, if_neg (by omega), show wrap64 0 = 0 by unfold wrap64; omega]
  · rw [if_pos (by omega)]
theorem name_some {b : List Int} (hb : Bytes b) (hl : b.length ≤ 1099511627776) {s : ByteArray} {t : List Int} (h : rdName b = some (s, t)) (k : Nat) : ∃ n : Nat, 0 < n ∧ n ≤ b.length ∧ t = b.drop n ∧ thermographref08_name.f k b = some (s, (n : Int)) := by
  unfold rdName at h
  cases hn : rdNum b with
  | none => rw [hn] at h; cases h
  | some p =>
    obtain ⟨v, u⟩ := p
    rw [hn] at h
    simp only [Option.bind_some] at h
    split at h
    · cases h
    · rename_i hz
      simp only [Option.some.injEq, Prod.mk.injEq] at h
      obtain ⟨rfl, rfl⟩ := h
      obtain ⟨n, h1, h2, rfl, h4, h5⟩ := number_some hb hl hn k
      rw [List.length_drop] at hz
      refine ⟨n + v, by omega, by omega, by rw [List.drop_drop], ?_⟩
      unfold thermographref08_name.f
      rw [h5]
      simp only [Option.bind_some]
      have e1 : wrap64 ((b.length : Int) - (n : Int)) = ((b.length - n : Nat) : Int) := by unfold wrap64; omega
      have e2 : wrap64 ((n : Int) + (v : Int)) = ((n + v : Nat) : Int) := by unfold wrap64; omega
      rw [e1, e2, if_neg (by omega), if_neg (by omega), if_neg (by omega), if_neg (by omega), if_pos (by omega), if_pos (by omega), if_pos (by omega), Int.toNat_natCast, Int.toNat_natCast, List.drop_take, Nat.add_sub_cancel_left]
theorem name_no {b : List Int} (hb : Bytes b) (hl : b.length ≤ 1099511627776) (h : rdName b = none) (k : Nat) : ∃ s, thermographref08_name.f k b = some (s, 0) := by
  unfold rdName at h
  unfold thermographref08_name.f
  cases hn : rdNum b with
  | none =>
    rw [number_no hb hl hn]
    simp only [Option.bind_some, if_true]
    exact ⟨_, rfl⟩
  | some p =>
    obtain ⟨v, u⟩ := p
    rw [hn] at h
    simp only [Option.bind_some] at h
    split at h
    · rename_i hz
      obtain ⟨n, h1, h2, rfl, h4, h5⟩ := number_some hb hl hn k
      rw [List.length_drop] at hz
      rw [h5]
      simp only [Option.bind_some]
      have e1 : wrap64 ((b.length : Int) - (n : Int)) = ((b.length - n : Nat) : Int) := by unfold wrap64; omega
      rw [e1, if_neg (by omega)]
      by_cases z1 : (v : Int) < 1
      · rw [if_pos z1]; exact ⟨_, rfl⟩
      · rw [if_neg z1]
        by_cases z2 : (v : Int) > 16
        · rw [if_pos z2]; exact ⟨_, rfl⟩
        · rw [if_neg z2, if_pos (by omega)]; exact ⟨_, rfl⟩
    · cases h
theorem or32 (a b : Nat) (i : Nat) (ha : a < 4294967296) (h0 : a % 2 ^ i = 0) (hb : b < 2 ^ i) (hi : i ≤ 32) : Go.bits .or .u32 (a : Int) (b : Int) = ((a + b : Nat) : Int) := by
  have h2 : (2 : Nat) ^ i ≤ 2 ^ 32 := Nat.pow_le_pow_right (by omega) hi
  rw [u32_or_nat _ _ ha (by omega), nat_join i _ _ h0 hb]
theorem sum_big (x0 x1 x2 x3 : Nat) (h0 : x0 < 256) (h1 : x1 < 256) (h2 : x2 < 256) (h3 : x3 < 256) :
    Go.bits .or .u32 (Go.bits .or .u32 (Go.bits .or .u32 ((((x0 : Int) % 4294967296) * 16777216) % 4294967296) ((((x1 : Int) % 4294967296) * 65536) % 4294967296)) ((((x2 : Int) % 4294967296) * 256) % 4294967296)) ((x3 : Int) % 4294967296) = ((x0 * 16777216 + x1 * 65536 + x2 * 256 + x3 : Nat) : Int) := by
  rw [show (((x0 : Int) % 4294967296) * 16777216) % 4294967296 = ((x0 * 16777216 : Nat) : Int) by omega, show (((x1 : Int) % 4294967296) * 65536) % 4294967296 = ((x1 * 65536 : Nat) : Int) by omega, show (((x2 : Int) % 4294967296) * 256) % 4294967296 = ((x2 * 256 : Nat) : Int) by omega, show (x3 : Int) % 4294967296 = ((x3 : Nat) : Int) by omega]
  rw [or32 _ _ 24 (by omega) (by omega) (by omega) (by omega), or32 _ _ 16 (by omega) (by omega) (by omega) (by omega), or32 _ _ 8 (by omega) (by omega) (by omega) (by omega)]
theorem wsub {a b : Nat} (h : b ≤ a) (ha : a ≤ 1099511627776) : wrap64 ((a : Int) - (b : Int)) = ((a - b : Nat) : Int) := by unfold wrap64; omega
theorem wadd {a b : Nat} (h : a + b ≤ 1099511627776) : wrap64 ((a : Int) + (b : Int)) = ((a + b : Nat) : Int) := by unfold wrap64; omega
theorem wadd1 {a : Nat} (h : a + 1 ≤ 1099511627776) : wrap64 ((a : Int) + 1) = ((a + 1 : Nat) : Int) := by unfold wrap64; omega
theorem wadd2 {a : Nat} (h : a + 2 ≤ 1099511627776) : wrap64 ((a : Int) + 2) = ((a + 2 : Nat) : Int) := by unfold wrap64; omega
theorem wadd3 {a : Nat} (h : a + 3 ≤ 1099511627776) : wrap64 ((a : Int) + 3) = ((a + 3 : Nat) : Int) := by unfold wrap64; omega
theorem wadd4 {a : Nat} (h : a + 4 ≤ 1099511627776) : wrap64 ((a : Int) + 4) = ((a + 4 : Nat) : Int) := by unfold wrap64; omega
theorem big_four (a b c d : Int) : big [a, b, c, d] = a.toNat * 16777216 + b.toNat * 65536 + c.toNat * 256 + d.toNat := by
  simp only [big, List.foldl]; omega
theorem rd_at {b : List Int} (hb : Bytes b) {p : Nat} (h : p < b.length) : ∃ z : Nat, rd b ((p : Nat) : Int) = (z : Int) ∧ z < 256 ∧ b[p].toNat = z := by
  have hr := hb _ (List.getElem_mem h)
  exact ⟨b[p].toNat, by rw [rd_nat h]; omega, by omega, rfl⟩
theorem take4 {b : List Int} {p : Nat} (h : p + 4 ≤ b.length) : (b.drop p).take 4 = [b[p], b[p+1], b[p+2], b[p+3]] := by
  rw [List.drop_eq_getElem_cons (by omega), List.take_succ_cons, List.drop_eq_getElem_cons (by omega), List.take_succ_cons, List.drop_eq_getElem_cons (by omega), List.take_succ_cons, List.drop_eq_getElem_cons (by omega), List.take_succ_cons, List.take_zero]
theorem bigAt {b : List Int} (hb : Bytes b) {p : Nat} (h : p + 4 ≤ b.length) :
    Go.bits .or .u32 (Go.bits .or .u32 (Go.bits .or .u32 (((rd b ((p : Nat) : Int) % 4294967296) * 16777216) % 4294967296) (((rd b ((p + 1 : Nat) : Int) % 4294967296) * 65536) % 4294967296)) (((rd b ((p + 2 : Nat) : Int) % 4294967296) * 256) % 4294967296)) (rd b ((p + 3 : Nat) : Int) % 4294967296) = ((big ((b.drop p).take 4) : Nat) : Int) := by
  obtain ⟨z0, y0, w0, v0⟩ := rd_at hb (p := p) (by omega)
  obtain ⟨z1, y1, w1, v1⟩ := rd_at hb (p := p + 1) (by omega)
  obtain ⟨z2, y2, w2, v2⟩ := rd_at hb (p := p + 2) (by omega)
  obtain ⟨z3, y3, w3, v3⟩ := rd_at hb (p := p + 3) (by omega)
  rw [y0, y1, y2, y3, sum_big _ _ _ _ w0 w1 w2 w3, take4 h, big_four, v0, v1, v2, v3]
end Go.Proofs.Ytohmbmjneainbaa.IxL
