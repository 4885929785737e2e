/- Which messages are too heavy: in plain words.
   Plain lemmas on the document's reading of a number: what stops it, and where. -/
import Derived.Test.YtpjljhiohimgcaaZWireFields16
import Derived.Test.YtpjljhiohimgcaaZWireFields11
import Derived.Lib.Bytes
namespace Go.Proofs.Ytpjljhiohimgcaa.MsO
open Go.RowKit Go.Proofs.YtpjljhiohimgcaaW.PrintWords Go.Proofs.YtpjljhiohimgcaaW.PrintLast Go.Proofs.YtpjljhiohimgcaaW.PrintMore Go.Proofs.Ytpjljhiohimgcaa.QB Go.Proofs.Ytpjljhiohimgcaa.Sl Go.Proofs.Ytpjljhiohimgcaa.WpP
set_option linter.unusedVariables false
set_option linter.unusedSimpArgs false
theorem w64 {x : Int} (h0 : -9223372036854775808 ≤ x) (h1 : x < 9223372036854775808) : wrap64 x = x := by unfold wrap64; omega
theorem heavy_l0 (m : Msg) : ∀ (d i : Nat) (n : Int) (k : Nat), i + d = m.ms.length → d < k → 0 ≤ n → n ≤ 1000000000 → m.ms.length ≤ 1000000000 →
    ∃ r, thermographlaw13_heavy.l0 k n (i : Int) m.kind m.seq m.epoch m.space m.shard m.id m.block m.lo m.hi m.t m.v m.s m.err m.more m.ps m.ms = some r ∧ (r = false → n ≤ 16384)
  | d, i, n, 0, _, hk, _, _, _ => by omega
  | 0, i, n, k + 1, hi, hk, h0, hn, hl => by
    rw [thermographlaw13_heavy.l0, if_neg (by omega)]
    exact ⟨_, rfl, fun h => by simpa using h⟩
  | d + 1, i, n, k + 1, hi, hk, h0, hn, hl => by
    rw [thermographlaw13_heavy.l0, if_pos (by omega)]
    by_cases h1 : n ≤ 16384
    · rw [if_pos h1, if_pos (by omega)]
      obtain ⟨q, hq, hq2⟩ : ∃ q : Int, mn (((rd_T49 m.ms (i : Int)).f0).size : Int) 1048576 = q ∧ 0 ≤ q ∧ q ≤ 1048576 := ⟨_, rfl, by unfold mn; split <;> omega⟩
      rw [hq, w64 (x := n + q) (by omega) (by omega), w64 (x := (i : Int) + 1) (by omega) (by omega), show (i : Int) + 1 = ((i + 1 : Nat) : Int) by omega]
      obtain ⟨r, hr, hr2⟩ := heavy_l0 m d (i + 1) (n + q) k (by omega) (by omega) (by omega) (by omega) hl
      exact ⟨r, hr, fun h => h1⟩
    · rw [if_neg h1]
      exact ⟨_, rfl, fun h => by simpa using h⟩
def heavyF (m : Msg) (r : Bool) : Prop := thermographlaw13_heavy.f 20000 m.kind m.seq m.epoch m.space m.shard m.id m.block m.lo m.hi m.t m.v m.s m.err m.more m.ps m.ms = some r
theorem heavy_ok (m : Msg) (hs : SzMsg m) : ∃ r, heavyF m r ∧ (r = false → m.id.size ≤ 16384 ∧ m.ps.length ≤ 16384 ∧ m.ms.length ≤ 16384) := by
  obtain ⟨h1, h2, h3⟩ := hs
  obtain ⟨n, hn⟩ : ∃ n : Nat, n = m.id.size + m.ps.length + m.ms.length := ⟨_, rfl⟩
  have e1 : wrap64 ((m.id.size : Int) + (m.ps.length : Int)) = (m.id.size : Int) + (m.ps.length : Int) := w64 (by omega) (by omega)
  have e2 : wrap64 ((m.id.size : Int) + (m.ps.length : Int) + (m.ms.length : Int)) = (n : Int) := by clear e1; rw [w64 (by omega) (by omega)]; omega
  unfold heavyF thermographlaw13_heavy.f
  rw [e1, e2]
  by_cases h : n ≤ 16384
  · obtain ⟨r, hr, hr2⟩ := heavy_l0 m m.ms.length 0 (n : Int) 20000 (by omega) (by omega) (by omega) (by omega) (by omega)
    exact ⟨r, hr, fun _ => by omega⟩
  · rw [thermographlaw13_heavy.l0]
    split
    · rw [if_neg (by omega)]
      exact ⟨_, rfl, fun h => by simp at h; omega⟩
    · exact ⟨_, rfl, fun h => by simp at h; omega⟩
theorem heavy_calls (w0 w : World) (L : List Asn) (m : Msg) (Ap : Option Addr) (cp : Nat) (Am : Option Addr) (cm : Nat) (r : Bool) (hI : MIn0 w0 m Ap cp Am cm) (hr : heavyF m r) (h : Sat w0 w L) :
    Calls Try.prog 8 #[.agg (m.cs (.slice Ap m.ps.length cp) (.slice Am m.ms.length cm))] w fun e w' => e = .returned (.bool r) ∧ Sat w0 w' L :=
  (thermographlaw13_heavy.calls 20000 m.kind m.seq m.epoch m.space m.shard m.id m.block m.lo m.hi m.t m.v m.s m.err m.more Ap cp m.ps Am cm m.ms _ w (Kd.C_below hI.hp h.below) hI.cp (Kd.C_below hI.hm h.below) hI.cm hr).mono fun e w' ⟨h1, h2⟩ => ⟨h1, h.step h2⟩
end Go.Proofs.Ytpjljhiohimgcaa.MsO
namespace Go.Proofs.Ytpjljhiohimgcaa.UvN
open Go.RowKit Go.Proofs.YtpjljhiohimgcaaW.PrintWords Go.Proofs.YtpjljhiohimgcaaW.PrintLast Go.Proofs.YtpjljhiohimgcaaW.PrintMore Go.Proofs.Ytpjljhiohimgcaa.QB Go.Proofs.Ytpjljhiohimgcaa.Uv Go.Proofs.Ytpjljhiohimgcaa.UvP Go.Proofs.Ytpjljhiohimgcaa.UvR
set_option linter.unusedVariables false
set_option linter.unusedSimpArgs false

theorem run_last : ∀ l : List Int, Run l → l.getD (l.length - 1) 0 < 128
  | [], h => h.elim
  | [c], h => by simpa [Run] using h.2
  | c :: d :: t, h => by
    have := run_last (d :: t) h.2
    simpa [List.getD_eq_getElem?_getD] using this
theorem run_high : ∀ l : List Int, Run l → ∀ j, j + 1 < l.length → 128 ≤ l.getD j 0
  | [], h, _, _ => h.elim
  | [c], h, j, hj => by simp at hj
  | c :: d :: t, h, 0, _ => by simpa using h.1.1
  | c :: d :: t, h, j + 1, hj => by
    have := run_high (d :: t) h.2 j (by simpa using hj)
    simpa [List.getD_eq_getElem?_getD] using this
theorem val_snoc (l : List Int) (c : Int) : val (l ++ [c]) = val l + c.toNat % 128 * 2 ^ (7 * l.length) := by
  induction l with
  | nil => simp [val]
  | cons a l ih =>
    rw [List.cons_append]
    simp only [val]
    rw [ih, List.length_cons, pow7]
    have : c.toNat % 128 * (128 * 2 ^ (7 * l.length)) = 128 * (c.toNat % 128 * 2 ^ (7 * l.length)) := by rw [← Nat.mul_assoc, Nat.mul_comm _ 128, Nat.mul_assoc]
    rw [this]
    omega
theorem val_lt (l : List Int) : val l < 2 ^ (7 * l.length) := by
  induction l with
  | nil => simp [val]
  | cons a l ih =>
    simp only [val, List.length_cons]
    rw [pow7]
    omega
theorem getD_left {a t : List Int} {j : Nat} (h : j < a.length) : (a ++ t).getD j 0 = a.getD j 0 := by
  rw [List.getD_eq_getElem?_getD, List.getElem?_append_left h, ← List.getD_eq_getElem?_getD]

/-- No number: the bytes end, or ten are too many. -/
theorem ruv_end {b : List Int} (hb : Bytes b) {i : Nat} (hH : ∀ j, j < i → 128 ≤ b.getD j 0) (hi : i = 10 ∨ b.length ≤ i) : ruv b = (0, 0) := by
  rcases ruv_cases hb with h | ⟨v, t, e, hv, _⟩
  · exact h.1
  · exfalso
    have h1 := run_last _ (run_uv v)
    have h2 := uv_length10 hv
    have h3 := uv_pos v
    have h4 : (uv v).length ≤ b.length := by rw [e, List.length_append]; omega
    have h5 := hH ((uv v).length - 1) (by omega)
    rw [e, getD_left (by omega)] at h5
    omega
/-- A last byte: a number, if it is written so. -/
theorem ruv_stop {b : List Int} (hb : Bytes b) {i : Nat} (hlt : i < b.length) (hH : ∀ j, j < i → 128 ≤ b.getD j 0) (hlow : b.getD i 0 < 128) :
    ruv b = if uv (val (b.take (i + 1)) % 18446744073709551616) = b.take (i + 1) then (((val (b.take (i + 1)) % 18446744073709551616 : Nat) : Int), ((i + 1 : Nat) : Int)) else (0, 0) := by
  split
  · rename_i h
    have hl := Nat.mod_lt (val (b.take (i + 1))) (show 0 < 18446744073709551616 by omega)
    generalize val (b.take (i + 1)) % 18446744073709551616 = z at h hl
    have e : b = uv z ++ b.drop (i + 1) := by rw [h, List.take_append_drop]
    have hlen : (uv z).length = i + 1 := by rw [h, List.length_take]; omega
    have := ruv_uv hl (b.drop (i + 1))
    rw [← e, hlen] at this
    exact this
  · rename_i h
    rcases ruv_cases hb with h1 | ⟨v, t, e, hv, _⟩
    · exact h1.1
    · exfalso
      have h1 := run_last _ (run_uv v)
      have h3 := uv_pos v
      have hle : i + 1 = (uv v).length := by
        rcases Nat.lt_trichotomy (i + 1) (uv v).length with h4 | h4 | h4
        · have h5 := run_high _ (run_uv v) i h4
          rw [e, getD_left (by omega)] at hlow
          omega
        · exact h4
        · have h5 := hH ((uv v).length - 1) (by omega)
          rw [e, getD_left (by omega)] at h5
          omega
      apply h
      rw [e, hle, List.take_left' rfl, val_uv, Nat.mod_eq_of_lt hv]
theorem uv_bytes' (v : Nat) : Bytes (uv v) := uv_bytes v
theorem str_inj {a b : List Int} (ha : Bytes a) (hb : Bytes b) (h : strOfNums a = strOfNums b) : a = b := by
  have h1 := congrArg (fun s : ByteArray => s.data.toList) h
  simp only [strOfNums_data] at h1
  have hm : ∀ l : List Int, Bytes l → (l.map fun n => UInt8.ofNat n.toNat).map (fun u => (u.toNat : Int)) = l := by
    intro l hl
    rw [List.map_map]
    conv => rhs; rw [← List.map_id l]
    refine List.map_congr_left (fun x hx => ?_)
    have := hl x hx
    simp [UInt8.toNat_ofNat']
    omega
  rw [← hm a ha, ← hm b hb, h1]
theorem str_inj' {a b : List Int} (ha : Bytes a) (hb : Bytes b) (h : (strOfNums a).toList = (strOfNums b).toList) : a = b := by
  refine str_inj ha hb ?_
  rw [Go.Lib.strOfNums_toList, Go.Lib.strOfNums_toList] at h
  have h2 : (strOfNums a).data.toList = (strOfNums b).data.toList := h
  have h3 : (strOfNums a).data = (strOfNums b).data := Array.ext' h2
  cases hx : strOfNums a
  cases hy : strOfNums b
  rw [hx, hy] at h3
  simp at h3
  rw [h3]
theorem val_step {b : List Int} {i c : Nat} (hi : i ≤ 9) (hlt : i < b.length) (hc : b[i] = (c : Int)) :
    val (b.take i) + c % 128 * 2 ^ (7 * i) % 18446744073709551616 = val (b.take (i + 1)) % 18446744073709551616 := by
  have hl : (b.take i).length = i := by rw [List.length_take]; omega
  have h1 : val (b.take (i + 1)) = val (b.take i) + c % 128 * 2 ^ (7 * i) := by
    rw [List.take_succ_eq_append_getElem hlt, val_snoc, hc, hl, Int.toNat_natCast]
  have h2 := val_lt (b.take i)
  rw [hl] at h2
  rw [h1]
  rcases Nat.lt_or_ge i 9 with h9 | h9
  · have h3 : (2 : Nat) ^ (7 * i) ≤ 2 ^ (7 * 8) := Nat.pow_le_pow_right (by omega) (by omega)
    have h4 : c % 128 * 2 ^ (7 * i) ≤ 127 * 2 ^ (7 * 8) := Nat.mul_le_mul (by omega) h3
    omega
  · obtain rfl : i = 9 := by omega
    generalize val (b.take 9) = z at h2
    omega
theorem val_small {b : List Int} {i : Nat} (hi : i ≤ 9) : val (b.take i) % 18446744073709551616 = val (b.take i) := by
  have h2 := val_lt (b.take i)
  have h3 : (2 : Nat) ^ (7 * (b.take i).length) ≤ 2 ^ (7 * 9) := Nat.pow_le_pow_right (by omega) (by rw [List.length_take]; omega)
  omega
end Go.Proofs.Ytpjljhiohimgcaa.UvN
