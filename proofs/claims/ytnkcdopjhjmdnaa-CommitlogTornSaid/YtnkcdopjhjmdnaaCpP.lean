/- Plain lemmas: the document's Encode of a record is the program's; eight bytes are read as one number. -/
import Derived.Test.YtnkcdopjhjmdnaaCfQ
import Derived.Test.YtnkcdopjhjmdnaaUvR
import Derived.Test.YtnkcdopjhjmdnaaQBx7
import Derived.Test.YtnkcdopjhjmdnaaQBx9
namespace Go.Proofs.Ytnkcdopjhjmdnaa.CpP
open Go.RowKit Go.Proofs.YtnkcdopjhjmdnaaW.PrintWords Go.Proofs.YtnkcdopjhjmdnaaW.PrintLast Go.Proofs.YtnkcdopjhjmdnaaW.PrintMore Go.Proofs.Ytnkcdopjhjmdnaa.QB Go.Proofs.Ytnkcdopjhjmdnaa.Uv Go.Proofs.Ytnkcdopjhjmdnaa.UvP Go.Proofs.Ytnkcdopjhjmdnaa.UvR Go.Proofs.Ytnkcdopjhjmdnaa.CeW Go.Proofs.Ytnkcdopjhjmdnaa.CfW Go.Proofs.Ytnkcdopjhjmdnaa.AdP
set_option linter.unusedVariables false
set_option linter.unusedSimpArgs false

theorem ref_uv {n : Nat} {k : Nat} {l : List Int} (hn : n < 9223372036854775808) (hk : 10 ≤ k) (hk2 : k ≤ 1000000) (hl : l.length ≤ 140737480000000) : thermographref03_Uvarint.f k l (IntKind.u64.wrap (n : Int)) = some (l ++ uv n) := by
  have e : IntKind.u64.wrap (n : Int) = (n : Int) := by rw [IntKind.wrap_u64]; omega
  rw [e]
  exact ref_Uvarint_f (by omega) hk hk2 hl
theorem ref_Text_f {s : ByteArray} {k : Nat} {l : List Int} (hs : s.size ≤ 16) (hk : 10 ≤ k) (hk2 : k ≤ 1000000) (hl : l.length ≤ 1099511627776) : thermographref08_Text.f k l s = some (l ++ (uv s.size ++ bytesOf s)) := by
  unfold thermographref08_Text.f
  rw [ref_uv (by omega) hk hk2 (by omega)]
  simp only [Option.bind_some]
  have h1 : (uv s.size).length ≤ 10 := uv_length10 (by omega)
  rw [if_pos (by rw [List.length_append]; omega), List.append_assoc]
theorem shr_u64 (n : Nat) (s : Nat) (hs : s ≤ 64) : shr .u64 (n : Int) (s : Int) = ((n / 2 ^ s : Nat) : Int) := by
  unfold shr
  rw [Int.toNat_natCast, show IntKind.bits .u64 = 64 from rfl, Nat.min_eq_left hs]
  push_cast
  rfl
theorem Wide_l0 (v : Nat) (hv : v < 18446744073709551616) : ∀ (m k : Nat) (l : List Int), m ≤ 8 → m < k → l.length + m ≤ 1099511627776 → thermographref09_Wide.l0 k l (v : Int) ((m : Int) - 1) = some (l ++ be m v) := by
  intro m
  induction m with
  | zero =>
    intro k l _ hk hl
    obtain ⟨k, rfl⟩ : ∃ j, k = j + 1 := ⟨k - 1, by omega⟩
    rw [thermographref09_Wide.l0, if_neg (by omega)]
    simp [be]
  | succ m ih =>
    intro k l hm hk hl
    obtain ⟨k, rfl⟩ : ∃ j, k = j + 1 := ⟨k - 1, by omega⟩
    have e1 : (((m + 1 : Nat) : Int) - 1) = (m : Int) := by omega
    have e2 : wrap64 (8 * (m : Int)) = ((8 * m : Nat) : Int) := by unfold wrap64; omega
    have e3 : wrap64 ((m : Int) - 1) = (m : Int) - 1 := by unfold wrap64; clear e2; omega
    have c1 : (0 : Int) ≤ ((8 * m : Nat) : Int) := Int.natCast_nonneg _
    have c2 : (m : Int) ≥ 0 := Int.natCast_nonneg _
    have c3 : l.length < 140737488355328 := by clear e2 e3; omega
    have e4 : ((v / 2 ^ (8 * m) : Nat) : Int) % 256 = ((v / 256 ^ m % 256 : Nat) : Int) := by
      rw [show (2 : Nat) ^ (8 * m) = 256 ^ m by rw [Nat.pow_mul]]
      exact (Int.natCast_emod _ _).symm
    rw [thermographref09_Wide.l0, e1, if_pos c2, e2, if_pos c1, if_pos c3, shr_u64 v (8 * m) (by clear e2 e3; omega), e4, e3]
    have h := ih k (l ++ [((v / 256 ^ m % 256 : Nat) : Int)]) (by clear e2 e3; omega) (by clear e2 e3; omega) (by rw [List.length_append, List.length_singleton]; clear e2 e3; omega)
    rw [h, be, List.append_assoc]
    rfl
theorem ref_Wide_f {v : Nat} (hv : v < 18446744073709551616) {k : Nat} (hk : 8 < k) {l : List Int} (hl : l.length ≤ 1000000) : thermographref09_Wide.f k l (v : Int) = some (l ++ be 8 v) := by
  unfold thermographref09_Wide.f
  exact Wide_l0 v hv 8 k l (by omega) hk (by omega)
theorem be4 {a : Nat} (ha : a < 4294967296) : ([((a : Int) / 16777216) % 256, ((a : Int) / 65536) % 256, ((a : Int) / 256) % 256, (a : Int) % 256] : List Int) = be 4 a := by
  simp only [be, List.cons.injEq, and_true]
  omega
theorem ref_Encode_f {sp : Int} {id : ByteArray} {t v s : Int} (hv : 0 ≤ v ∧ v < 18446744073709551616) (hs : 0 ≤ s ∧ s < 18446744073709551616) {k : Nat} (hk : 4000 ≤ k) (hk2 : k ≤ 900000) : thermographref09_Encode.f (k + 2) sp id t v s = some (encE sp id t v s) := by
  unfold thermographref09_Encode.f encE
  have j0 : thermographref09_Encode.j0 (k + 2) true sp id t v s = some ([], 1) := by rw [thermographref09_Encode.j0, if_pos rfl]
  by_cases h1 : sp < 0
  · rw [if_pos h1, if_pos (.inl h1), j0]
  rw [if_neg h1]
  by_cases h2 : sp ≥ 4
  · rw [if_pos h2, if_pos (.inr (.inl h2)), j0]
  rw [if_neg h2]
  by_cases h3 : t < 0
  · rw [if_pos h3, if_pos (.inr (.inr (.inl h3))), j0]
  rw [if_neg h3]
  by_cases h4 : t > 1099511627776
  · rw [decide_eq_true h4, if_pos (.inr (.inr (.inr h4))), j0]
  rw [decide_eq_false h4, if_neg (by omega), thermographref09_Encode.j0, if_neg (by decide)]
  have j1 : thermographref09_Encode.j1 (k + 1) true sp id t v s = some ([], 80) := by rw [thermographref09_Encode.j1, if_pos rfl]
  by_cases h5 : (id.size : Int) < 1
  · rw [if_pos h5, if_pos (.inl (by omega)), j1]
  rw [if_neg h5]
  by_cases h6 : (id.size : Int) > 16
  · rw [decide_eq_true h6, if_pos (.inr (by omega)), j1]
  rw [decide_eq_false h6, if_neg (by omega), thermographref09_Encode.j1, if_neg (by decide)]
  obtain ⟨n, rfl⟩ : ∃ n : Nat, sp = (n : Int) := ⟨sp.toNat, by omega⟩
  obtain ⟨m, rfl⟩ : ∃ m : Nat, t = (m : Int) := ⟨t.toNat, by omega⟩
  obtain ⟨v, rfl⟩ : ∃ n : Nat, v = (n : Int) := ⟨v.toNat, by omega⟩
  obtain ⟨s, rfl⟩ : ∃ n : Nat, s = (n : Int) := ⟨s.toNat, by omega⟩
  have u1 : (uv n).length ≤ 10 := uv_length10 (by omega)
  have u2 : (uv id.size).length ≤ 10 := uv_length10 (by omega)
  have u3 : (uv m).length ≤ 10 := uv_length10 (by omega)
  have u5 := bytesOf_length id
  have hi16 : id.size ≤ 16 := by omega
  have q1 := ref_uv (n := n) (k := k) (l := []) (by omega) (by omega) (by omega) (by simp)
  have q2 := ref_Text_f (s := id) (k := k) (l := [] ++ uv n) hi16 (by omega) (by omega) (by simp only [List.nil_append]; omega)
  have q3 := ref_uv (n := m) (k := k) (l := [] ++ uv n ++ (uv id.size ++ bytesOf id)) (by omega) (by omega) (by omega) (by simp only [List.nil_append, List.length_append]; omega)
  have q4 := ref_Wide_f (v := v) (by omega) (k := k) (by omega) (l := [] ++ uv n ++ (uv id.size ++ bytesOf id) ++ uv m) (by simp only [List.nil_append, List.length_append]; omega)
  have q5 := ref_Wide_f (v := s) (by omega) (k := k) (by omega) (l := [] ++ uv n ++ (uv id.size ++ bytesOf id) ++ uv m ++ be 8 v) (by simp only [List.nil_append, List.length_append, be_length]; omega)
  have eb : [] ++ uv n ++ (uv id.size ++ bytesOf id) ++ uv m ++ be 8 v ++ be 8 s = bodyR n id m v s := by
    unfold bodyR
    simp only [List.nil_append, List.append_assoc]
  rw [eb] at q5
  have hbl : (bodyR n id m v s).length ≤ 62 := by rw [← eb]; simp only [List.nil_append, List.length_append, be_length]; omega
  have hbb : Bytes (bodyR n id m v s) := by unfold bodyR; exact bytes_body n id m v s
  have q6 := ref_Adler_f hbb (by omega) (k := k) (by omega)
  have q7 := ref_uv (n := (bodyR n id m v s).length) (k := k) (l := []) (by omega) (by omega) (by omega) (by simp)
  have u6 : (uv (bodyR n id m v s).length).length ≤ 10 := uv_length10 (by omega)
  rw [q1]
  simp only [Option.bind_some]
  rw [q2]
  simp only [Option.bind_some]
  rw [q3]
  simp only [Option.bind_some]
  rw [q4]
  simp only [Option.bind_some]
  rw [q5]
  simp only [Option.bind_some]
  rw [q6]
  simp only [Option.bind_some]
  rw [q7]
  simp only [Option.bind_some]
  rw [be4 (adF_lt _), if_pos (by simp only [List.nil_append, be_length]; omega)]
  try simp only [Option.bind_some]
  rw [if_pos (by simp only [List.nil_append, List.length_append, be_length]; omega)]
  simp only [Int.toNat_natCast, List.nil_append]
  rfl
theorem wide_l0 (l : List Int) (hb : Bytes l) (hl : 8 ≤ l.length) : ∀ (d i k : Nat), i + d = 8 → d < k → thermographref09_wide.l0 k l ((big (l.take i) : Nat) : Int) (i : Int) = some ((big (l.take 8) : Nat) : Int) := by
  intro d
  induction d with
  | zero =>
    intro i k hi hk
    obtain ⟨k, rfl⟩ : ∃ j, k = j + 1 := ⟨k - 1, by omega⟩
    obtain rfl : i = 8 := by omega
    rw [thermographref09_wide.l0, if_neg (by decide)]
  | succ d ih =>
    intro i k hi hk
    obtain ⟨k, rfl⟩ : ∃ j, k = j + 1 := ⟨k - 1, by omega⟩
    have hlt : i < l.length := by omega
    have hc := hb _ (List.getElem_mem hlt)
    have h := ih (i + 1) k (by omega) (by omega)
    obtain ⟨z, hz⟩ : ∃ z : Nat, l[i] = (z : Int) := ⟨l[i].toNat, by omega⟩
    have hbl := big_lt (Bytes.take hb i)
    rw [List.length_take, Nat.min_eq_left (by omega)] at hbl
    have hbm : big (l.take i) < 72057594037927936 := Nat.lt_of_lt_of_le hbl (Nat.le_trans (Nat.pow_le_pow_right (by omega) (show i ≤ 7 by omega)) (by omega))
    have hsn : big (l.take (i + 1)) = big (l.take i) * 256 + z := by rw [List.take_succ_eq_append_getElem hlt, big_snoc, hz, Int.toNat_natCast]
    have e3 : wrap64 ((i : Int) + 1) = ((i + 1 : Nat) : Int) := by unfold wrap64; omega
    have c1 : (i : Int) < 8 := by clear e3; omega
    have c2 : (0 : Int) ≤ (i : Int) := by clear e3; omega
    have c3 : (i : Int) < (l.length : Int) := by clear e3; omega
    have e1 : IntKind.u64.wrap (((big (l.take i) : Nat) : Int) * 256) = ((big (l.take i) : Nat) : Int) * 256 := by rw [IntKind.wrap_u64]; clear e3; omega
    have e2 : IntKind.u64.wrap (z : Int) = (z : Int) := by rw [IntKind.wrap_u64]; clear e3; omega
    rw [thermographref09_wide.l0, if_pos c1, if_pos c2, if_pos c3, rd_nat hlt, hz, e1, e2, or_byte' _ _ hbm (by clear e3; omega), ← hsn, e3]
    exact h
theorem ref_wide_f {l : List Int} (hb : Bytes l) (hl : 8 ≤ l.length) {k : Nat} (hk : 8 < k) : thermographref09_wide.f k l = some ((big (l.take 8) : Nat) : Int) := by
  unfold thermographref09_wide.f
  exact wide_l0 l hb hl 8 0 k (by omega) hk
end Go.Proofs.Ytnkcdopjhjmdnaa.CpP
