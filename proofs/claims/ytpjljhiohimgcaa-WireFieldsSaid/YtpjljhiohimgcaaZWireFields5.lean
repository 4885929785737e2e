/- What the printed functions of layer 3 on numbers come to: bits.Uvarint, bits.ReadUvarint, in the words of Uv.
   The encoding of messages, in plain words. No program in sight. -/
import Derived.Test.YtpjljhiohimgcaaZWireFields3
import Derived.Test.YtpjljhiohimgcaaZWireFields4
import Derived.Laws.Bits64
namespace Go.Proofs.Ytpjljhiohimgcaa.UvP
open Go.RowKit Go.Proofs.YtpjljhiohimgcaaW.PrintWords Go.Proofs.YtpjljhiohimgcaaW.PrintLast Go.Proofs.YtpjljhiohimgcaaW.PrintMore Go.Proofs.Ytpjljhiohimgcaa.QB Go.Proofs.Ytpjljhiohimgcaa.Uv
set_option linter.unusedVariables false
set_option linter.unusedSimpArgs false

theorem clone_f {l : List Int} (h : l.length < 140737488355328) : slices_Clone_byte_byte.f l = some l := by simp [slices_Clone_byte_byte.f, h]

theorem or128 : ∀ a : Nat, a < 256 → a ||| 128 = a % 128 + 128 := by decide +kernel
theorem byte_or128 (v : Nat) : Go.bits .or .u8 ((v : Int) % 256) 128 = ((v % 128 + 128 : Nat) : Int) := by
  have h := u8_or_nat (v % 256) 128 (by omega) (by omega)
  rw [or128 _ (by omega)] at h
  have e : (((v % 256 : Nat) : Int)) = (v : Int) % 256 := by omega
  rw [e] at h
  rw [show ((128 : Nat) : Int) = 128 from rfl] at h
  rw [h]
  congr 1
  omega

theorem bits_Uvarint_l0 (v : Nat) : ∀ (k : Nat) (acc : List Int), (uv v).length ≤ k → acc.length + k < 140737488355328 → bits_Uvarint.l0 k (v : Int) acc = some (acc ++ uv v) := by
  induction v using uv_induct with
  | h0 v h =>
    intro k acc hk ha
    rw [uv_small h] at hk ⊢
    obtain ⟨k, rfl⟩ : ∃ m, k = m + 1 := ⟨k - 1, by simp at hk; omega⟩
    simp only [bits_Uvarint.l0]
    rw [if_neg (by omega), if_pos (by omega), show (v : Int) % 256 = v from by omega]
  | h1 v h ih =>
    intro k acc hk ha
    rw [uv_big h] at hk ⊢
    simp only [List.length_cons] at hk
    obtain ⟨k, rfl⟩ : ∃ m, k = m + 1 := ⟨k - 1, by omega⟩
    simp only [bits_Uvarint.l0]
    rw [if_pos (by omega), if_pos (by omega), byte_or128, show (v : Int) / 128 = ((v / 128 : Nat) : Int) from by omega, ih k _ (by omega) (by simp; omega)]
    simp
theorem bits_Uvarint_f {v k : Nat} {l : List Int} (hv : v < 18446744073709551616) (hk : 10 ≤ k) (hk2 : k ≤ 1000000) (hl : l.length ≤ 140737480000000) : bits_Uvarint.f k l (v : Int) = some (l ++ uv v) := by
  unfold bits_Uvarint.f
  rw [clone_f (by omega)]
  simp only [Option.bind_some]
  exact bits_Uvarint_l0 v k l (Nat.le_trans (uv_length10 hv) hk) (by omega)
theorem or_shl0 {acc x i : Nat} (hi : i ≤ 9) (ha : acc < 2 ^ (7 * i)) (hx : x < 128) :
    Go.bits .or .u64 (acc : Int) (shl .u64 (x : Int) ((7 * i : Nat) : Int)) = ((acc + x * 2 ^ (7 * i) % 18446744073709551616 : Nat) : Int) := by
  have hp : (2 : Nat) ^ (7 * i) ≤ 2 ^ 63 := Nat.pow_le_pow_right (by omega) (by omega)
  have e : shl .u64 (x : Int) ((7 * i : Nat) : Int) = ((x * 2 ^ (7 * i) % 18446744073709551616 : Nat) : Int) := by
    unfold shl
    rw [IntKind.wrap_u64, Int.toNat_natCast, show IntKind.bits .u64 = 64 from rfl, Nat.min_eq_left (by omega), Int.natCast_emod, Int.natCast_mul, Int.natCast_pow]
    rfl
  rw [e, u64_or_nat _ _ (by omega) (Nat.mod_lt _ (by omega))]
  congr 1
  rw [Nat.or_comm, nat_join (7 * i) _ _ ?_ ha, Nat.add_comm]
  have hd : 2 ^ (7 * i) ∣ 18446744073709551616 := by
    have := Nat.pow_dvd_pow 2 (show 7 * i ≤ 64 by omega)
    rwa [show (2 : Nat) ^ 64 = 18446744073709551616 from rfl] at this
  rw [Nat.mod_mod_of_dvd _ hd]
  exact Nat.mul_mod_left _ _
theorem or_shl {acc c i : Nat} (hi : i ≤ 9) (ha : acc < 2 ^ (7 * i)) (hc : c < 256) (h9 : i = 9 → c ≤ 1) :
    Go.bits .or .u64 (acc : Int) (shl .u64 (IntKind.u64.wrap (Go.bits .and .u8 (c : Int) 127)) (IntKind.u64.wrap (wrap64 (7 * (i : Int))))) = ((acc + c % 128 * 2 ^ (7 * i) : Nat) : Int) := by
  have e1 : IntKind.u64.wrap (Go.bits .and .u8 (c : Int) 127) = ((c % 128 : Nat) : Int) := by
    have h := u8_and_nat c 127 hc (by omega)
    rw [nat_mask7] at h
    rw [show ((127 : Nat) : Int) = 127 from rfl] at h
    rw [h, IntKind.wrap_u64]
    omega
  have e2 : IntKind.u64.wrap (wrap64 (7 * (i : Int))) = ((7 * i : Nat) : Int) := by
    rw [IntKind.wrap_u64]
    unfold wrap64
    omega
  rw [e1, e2, or_shl0 hi ha (by omega), Nat.mod_eq_of_lt]
  rcases Nat.lt_or_ge i 9 with hlt | hge
  · have : (2 : Nat) ^ (7 * i) ≤ 2 ^ (7 * 8) := Nat.pow_le_pow_right (by omega) (by omega)
    have : c % 128 * 2 ^ (7 * i) ≤ 127 * 2 ^ (7 * 8) := Nat.mul_le_mul (by omega) this
    omega
  · have e : i = 9 := by omega
    subst e
    have : c ≤ 1 := h9 rfl
    have : c % 128 * 2 ^ (7 * 9) ≤ 1 * 2 ^ (7 * 9) := Nat.mul_le_mul_right _ (by omega)
    omega
def Bytes (l : List Int) : Prop := ∀ x ∈ l, 0 ≤ x ∧ x < 256
theorem rd_nat {l : List Int} {i : Nat} (h : i < l.length) : rd l (i : Int) = l[i] := by
  unfold rd
  rw [Int.toNat_natCast, List.getD_eq_getElem?_getD, List.getElem?_eq_getElem h]
  rfl

theorem wrap_nonneg (x : Int) : 0 ≤ IntKind.u64.wrap x := by
  rw [IntKind.wrap_u64]
  exact Int.emod_nonneg _ (by decide)
theorem wrap_succ {i : Nat} (h : i ≤ 2000) : wrap64 ((i : Int) + 1) = ((i + 1 : Nat) : Int) := by
  unfold wrap64
  omega
set_option maxHeartbeats 1000000 in
theorem bits_Read_l0 (l : List Int) (hb : Bytes l) (hl : l.length ≤ 140737488355328) : ∀ (d i acc k : Nat), i + d = 10 → acc < 2 ^ (7 * i) → 2 * d < k → (d = 0 → l.length ≤ i) →
    bits_ReadUvarint.l0 k (acc : Int) l (l.length : Int) (i : Int) = some (ruvGo i acc (l.drop i)) := by
  intro d
  induction d with
  | zero =>
    intro i acc k hi ha hk h0
    obtain ⟨k, rfl⟩ : ∃ m, k = m + 1 := ⟨k - 1, by omega⟩
    simp only [bits_ReadUvarint.l0]
    rw [if_neg (by have := h0 rfl; omega), List.drop_eq_nil_of_le (h0 rfl)]
    simp [ruvGo]
  | succ d ih =>
    intro i acc k hi ha hk _
    obtain ⟨k, rfl⟩ : ∃ m, k = m + 2 := ⟨k - 2, by omega⟩
    by_cases hlt : i < l.length
    · have hc := hb l[i] (List.getElem_mem hlt)
      obtain ⟨c, hce⟩ : ∃ c : Nat, l[i] = (c : Int) := ⟨l[i].toNat, by omega⟩
      have hcl : c < 256 := by omega
      rw [List.drop_eq_getElem_cons hlt, hce]
      simp only [bits_ReadUvarint.l0, bits_ReadUvarint.j1, ruvGo]
      rw [rd_nat hlt, hce, if_pos (by omega), if_pos (by omega), if_pos (by omega)]
      have hw := wrap_succ (show i ≤ 2000 by omega)
      have hs := wrap_nonneg (wrap64 (7 * (i : Int)))
      by_cases h9 : i = 9
      · rw [if_pos (by omega)]
        by_cases hc1 : (c : Int) > 1
        · rw [if_pos (by simpa using hc1), if_pos ⟨h9, hc1⟩]
        · rw [if_neg (by simpa using hc1), if_neg (show ¬ (i = 9 ∧ (c : Int) > 1) from fun h => hc1 h.2), if_pos hs]
          have h128 : (c : Int) < 128 := by omega
          rw [if_pos h128, if_pos h128, or_shl (by omega) ha hcl (by omega), hw]
          by_cases hz : (c : Int) = 0
          · rw [if_pos hz, if_pos (show (i : Int) > 0 from by omega), if_pos (show (c : Int) = 0 ∧ 0 < i from ⟨hz, by omega⟩)]
          · rw [if_neg hz, if_neg (show ¬ ((c : Int) = 0 ∧ 0 < i) from fun h => hz h.1), Int.toNat_natCast]
      · rw [if_neg (show ¬ ((i : Int) = 9) from by omega), if_neg (by simp), if_neg (show ¬ (i = 9 ∧ (c : Int) > 1) from fun h => h9 h.1), if_pos hs, or_shl (by omega) ha hcl (by omega), hw]
        by_cases h128 : (c : Int) < 128
        · rw [if_pos h128, if_pos h128]
          by_cases hz : (c : Int) = 0
          · rw [if_pos hz]
            by_cases hi0 : 0 < i
            · rw [if_pos (show (i : Int) > 0 from by omega), if_pos ⟨hz, hi0⟩]
            · rw [if_neg (show ¬ ((i : Int) > 0) from by omega), if_neg (show ¬ ((c : Int) = 0 ∧ 0 < i) from fun h => hi0 h.2), Int.toNat_natCast]
          · rw [if_neg hz, if_neg (show ¬ ((c : Int) = 0 ∧ 0 < i) from fun h => hz h.1), Int.toNat_natCast]
        · rw [if_neg h128, if_neg h128, Int.toNat_natCast]
          have hp := two7 i
          refine ih (i + 1) (acc + c % 128 * 2 ^ (7 * i)) k (by omega) ?_ (by omega) (by omega)
          rw [pow7]
          have : c % 128 * 2 ^ (7 * i) ≤ 127 * 2 ^ (7 * i) := Nat.mul_le_mul_right _ (by omega)
          omega
    · simp only [bits_ReadUvarint.l0]
      rw [if_neg (by omega), List.drop_eq_nil_of_le (by omega)]
      simp [ruvGo]
theorem bits_Read_f {l : List Int} {k : Nat} (hb : Bytes l) (hl : l.length ≤ 140737488355328) (hk : 21 ≤ k) : bits_ReadUvarint.f k l = some (ruv l) := by
  unfold bits_ReadUvarint.f ruv
  exact bits_Read_l0 l hb hl 10 0 0 k (by omega) (by omega) (by omega) (by omega)
end Go.Proofs.Ytpjljhiohimgcaa.UvP
namespace Go.Proofs.Ytpjljhiohimgcaa.WpP
open Go.RowKit Go.Proofs.YtpjljhiohimgcaaW.PrintWords Go.Proofs.YtpjljhiohimgcaaW.PrintLast Go.Proofs.YtpjljhiohimgcaaW.PrintMore Go.Proofs.Ytpjljhiohimgcaa.QB Go.Proofs.Ytpjljhiohimgcaa.Uv Go.Proofs.Ytpjljhiohimgcaa.UvP
set_option linter.unusedVariables false
set_option linter.unusedSimpArgs false
abbrev Pt := S26
abbrev Mt := S49
/-- Bytes, or the first error. -/
abbrev R := Except Int (List Int)
structure Msg where
  kind : Int
  seq : Int
  epoch : Int
  space : Int
  shard : Int
  id : ByteArray
  block : Int
  lo : Int
  hi : Int
  t : Int
  v : Int
  s : Int
  err : Int
  more : Bool
  ps : List Pt
  ms : List Mt
/-- A message's cells; vp, vm: its slices. -/
def Msg.cs (m : Msg) (vp vm : Value) : Array Value := #[.int .i64 m.kind, .int .i64 m.seq, .int .i64 m.epoch, .int .i64 m.space, .int .i64 m.shard, .string m.id, .int .i64 m.block, .int .i64 m.lo, .int .i64 m.hi, .int .i64 m.t, .int .u64 m.v, .int .u64 m.s, .int .i64 m.err, .bool m.more, vp, vm]
/-- So many bytes of a number, the greatest first. -/
def be : Nat → Nat → List Int
  | 0, _ => []
  | m + 1, v => ((v / 256 ^ m % 256 : Nat) : Int) :: be m v
theorem be_length : ∀ (m v : Nat), (be m v).length = m
  | 0, _ => rfl
  | m + 1, v => by rw [be, List.length_cons, be_length m v]
def numE (n most : Int) (b : List Int) : R := if 0 ≤ n ∧ n ≤ most then .ok (b ++ uv n.toNat) else .error 1
def nameE (s : ByteArray) (b : List Int) : R := if s.size ≤ 16 then .ok (b ++ uv s.size ++ bytesOf s) else .error 80
def manyE (n : Nat) (most : Int) (b : List Int) : R := if (n : Int) ≤ most then .ok (b ++ uv n) else .error 52
def wideE (v : Int) (k : Nat) (b : List Int) : List Int := b ++ be k v.toNat
def pointE (p : Pt) (b : List Int) : R := (numE p.f0 1099511627776 b).bind fun c => .ok (wideE p.f2 8 (wideE p.f1 8 c))
def ptsE : List Pt → List Int → R
  | [], b => .ok b
  | p :: l, b => (pointE p b).bind (ptsE l)
def pointsE (l : List Pt) (b : List Int) : R := (manyE l.length 512 b).bind (ptsE l)
def metaE (m : Mt) (b : List Int) : R := (nameE m.f0 b).bind fun c => (numE m.f1 1099511627776 c).bind fun d => (numE m.f2 512 d).bind fun e => .ok (wideE m.f3 4 e)
def mtsE : List Mt → List Int → R
  | [], b => .ok b
  | m :: l, b => (metaE m b).bind (mtsE l)
def metasE (l : List Mt) (b : List Int) : R := (manyE l.length 8 b).bind (mtsE l)
def spanE (lo hi : Int) (b : List Int) : R := (numE lo 1099511627777 b).bind (numE hi 1099511627777)
/-- The fields of a message's kind. -/
def kindE (m : Msg) (b : List Int) : R :=
  if m.kind = 1 then (numE m.space 255 b).bind fun c => (nameE m.id c).bind (pointE ⟨m.t, m.v, m.s⟩)
  else if m.kind = 3 then (numE m.space 255 b).bind fun c => (nameE m.id c).bind (spanE m.lo m.hi)
  else if m.kind = 5 then (numE m.space 255 b).bind fun c => (numE m.shard 255 c).bind fun d => (spanE m.lo m.hi d).bind fun e => (numE m.block 1099511627776 e).bind (nameE m.id)
  else if m.kind = 7 then (numE m.space 255 b).bind fun c => (numE m.shard 255 c).bind fun d => (numE m.block 1099511627776 d).bind (nameE m.id)
  else if m.kind = 6 then (numE m.err 255 b).bind fun c => (numE (if m.more = true then 1 else 0) 1 c).bind (metasE m.ms)
  else if m.kind = 2 then numE m.err 255 b
  else if m.kind = 8 ∨ m.kind = 4 then (numE m.err 255 b).bind (pointsE m.ps)
  else .error 1
def fieldsE (m : Msg) (b : List Int) : R := (numE m.seq 1099511627776 b).bind fun c => (numE m.epoch 1099511627776 c).bind (kindE m)
/-- A message's bytes, or the error. -/
def encM (m : Msg) : R := if m.kind < 1 ∨ 8 < m.kind then .error 1 else fieldsE m [m.kind]
/-! What they add at most. -/
theorem numE_ok {n most : Int} {b c : List Int} (h : numE n most b = .ok c) : 0 ≤ n ∧ n ≤ most ∧ c = b ++ uv n.toNat := by
  unfold numE at h
  split at h
  · rename_i hc
    cases h
    exact ⟨hc.1, hc.2, rfl⟩
  · cases h
theorem numE_len {n most : Int} {b c : List Int} (h : numE n most b = .ok c) (hm : most ≤ 1099511627777) : c.length ≤ b.length + 6 := by
  obtain ⟨h0, h1, rfl⟩ := numE_ok h
  have := uv_length_le n.toNat 6 (by omega) (by omega)
  rw [List.length_append]
  omega
theorem nameE_ok {s : ByteArray} {b c : List Int} (h : nameE s b = .ok c) : s.size ≤ 16 ∧ c = b ++ uv s.size ++ bytesOf s := by
  unfold nameE at h
  split at h
  · cases h
    exact ⟨by assumption, rfl⟩
  · cases h
theorem nameE_len {s : ByteArray} {b c : List Int} (h : nameE s b = .ok c) : c.length ≤ b.length + 17 := by
  obtain ⟨h0, rfl⟩ := nameE_ok h
  have := uv_small (v := s.size) (by omega)
  rw [this, List.length_append, List.length_append, bytesOf_length]
  simp only [List.length_singleton]
  omega
theorem wideE_len (v : Int) (k : Nat) (b : List Int) : (wideE v k b).length = b.length + k := by rw [wideE, List.length_append, be_length]
theorem bind_ok {α β : Type} {r : Except Int α} {f : α → Except Int β} {y : β} (h : r.bind f = .ok y) : ∃ x, r = .ok x ∧ f x = .ok y := by
  cases r with
  | error e => cases h
  | ok x => exact ⟨x, rfl, h⟩
theorem spanE_len {lo hi : Int} {b c : List Int} (h : spanE lo hi b = .ok c) : c.length ≤ b.length + 12 := by
  obtain ⟨d, h1, h2⟩ := bind_ok h
  have := numE_len h1 (by decide)
  have := numE_len h2 (by decide)
  omega
theorem pointE_len {p : Pt} {b c : List Int} (h : pointE p b = .ok c) : c.length ≤ b.length + 22 := by
  obtain ⟨d, h1, h2⟩ := bind_ok h
  cases h2
  have := numE_len h1 (by decide)
  rw [wideE_len, wideE_len]
  omega
theorem ptsE_len : ∀ {l : List Pt} {b c : List Int}, ptsE l b = .ok c → c.length ≤ b.length + 22 * l.length
  | [], b, c, h => by cases h; simp
  | p :: l, b, c, h => by
    obtain ⟨d, h1, h2⟩ := bind_ok h
    have := pointE_len h1
    have := ptsE_len h2
    rw [List.length_cons]
    omega
theorem metaE_len {m : Mt} {b c : List Int} (h : metaE m b = .ok c) : c.length ≤ b.length + 33 := by
  obtain ⟨d, h1, h2⟩ := bind_ok h
  obtain ⟨e, h3, h4⟩ := bind_ok h2
  obtain ⟨f, h5, h6⟩ := bind_ok h4
  cases h6
  have := nameE_len h1
  have := numE_len h3 (by decide)
  have := numE_len h5 (by decide)
  rw [wideE_len]
  omega
theorem mtsE_len : ∀ {l : List Mt} {b c : List Int}, mtsE l b = .ok c → c.length ≤ b.length + 33 * l.length
  | [], b, c, h => by cases h; simp
  | p :: l, b, c, h => by
    obtain ⟨d, h1, h2⟩ := bind_ok h
    have := metaE_len h1
    have := mtsE_len h2
    rw [List.length_cons]
    omega
theorem manyE_ok {n : Nat} {most : Int} {b c : List Int} (h : manyE n most b = .ok c) : (n : Int) ≤ most ∧ c = b ++ uv n := by
  unfold manyE at h
  split at h
  · cases h
    exact ⟨by assumption, rfl⟩
  · cases h
end Go.Proofs.Ytpjljhiohimgcaa.WpP
