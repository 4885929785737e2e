/- Plain lemmas: the document's encoding of points is the program's. The laws TszEncodes, TszSums, TszEven.
   What functions of the translation come to, each as a Lean function, and a proof that the call comes to just that; or a law's row, out of its plain law. Written by mp.py, a program of this session, which runs the printer of the kit with stand-in bodies for some library functions. -/
import Derived.Test.YtmnlbedgkjnodaaDoorZTszEven12
import Derived.Test.YtmnlbedgkjnodaaDoorZTszEven14
import Derived.Test.YtmnlbedgkjnodaaDoorZTszEven15
import Derived.Test.YtmnlbedgkjnodaaDoorZTszEven16
import Derived.Test.YtmnlbedgkjnodaaDoorZTszEven7
import Derived.Test.YtmnlbedgkjnodaaDoorZTszEven9
import Derived.Test.YtmnlbedgkjnodaaDoorZTszEven2
import Derived.Test.YtmnlbedgkjnodaaDoorZTszEven4
namespace Go.Proofs.YtmnlbedgkjnodaaDoor.TeE
open Go.RowKit Go.Proofs.YtmnlbedgkjnodaaDoorW.PrintWords Go.Proofs.YtmnlbedgkjnodaaDoorW.PrintLast Go.Proofs.YtmnlbedgkjnodaaDoorW.PrintMore Go.Proofs.YtmnlbedgkjnodaaDoor.QB Go.Proofs.YtmnlbedgkjnodaaDoor.Bt Go.Proofs.YtmnlbedgkjnodaaDoor.Uv Go.Proofs.YtmnlbedgkjnodaaDoor.UvP Go.Proofs.YtmnlbedgkjnodaaDoor.UvR Go.Proofs.YtmnlbedgkjnodaaDoor.WrW Go.Proofs.YtmnlbedgkjnodaaDoor.BtR Go.Proofs.YtmnlbedgkjnodaaDoor.TzP Go.Proofs.YtmnlbedgkjnodaaDoor.TzW Go.Proofs.YtmnlbedgkjnodaaDoor.TeP Go.Proofs.YtmnlbedgkjnodaaDoor.TeW Go.Proofs.YtmnlbedgkjnodaaDoor.TeR
set_option linter.unusedVariables false
set_option linter.unusedSimpArgs false

theorem shr_nat (v i : Nat) (hi : i ≤ 64) : shr .u64 (v : Int) (i : Int) = ((v / 2 ^ i : Nat) : Int) := by
  unfold shr
  rw [Int.toNat_natCast, show IntKind.bits .u64 = 64 from rfl, Nat.min_eq_left hi, Int.natCast_ediv, Int.natCast_pow]
  rfl
theorem bit_at (v i : Nat) (hv : v < 18446744073709551616) (hi : i ≤ 64) : Go.bits .and .u64 (shr .u64 (v : Int) (i : Int)) 1 = ((v / 2 ^ i % 2 : Nat) : Int) := by
  have hle : v / 2 ^ i < 18446744073709551616 := Nat.lt_of_le_of_lt (Nat.div_le_self _ _) hv
  have h := u64_and_nat (v / 2 ^ i) 1 hle (by omega)
  rw [nat_mask1] at h
  rw [shr_nat v i hi, show (1 : Int) = ((1 : Nat) : Int) from rfl, h]
theorem leads_l0 (y : Nat) (hy : y < 18446744073709551616) : ∀ (d n k : Nat), n + d = 31 → d < k → y < 2 ^ (64 - n) → thermographref05_leads.l0 k (y : Int) (n : Int) = some ((lz y : Nat) : Int) := by
  intro d
  induction d with
  | zero =>
    intro n k hn hk hb
    obtain ⟨k, rfl⟩ : ∃ m, k = m + 1 := ⟨k - 1, by omega⟩
    obtain rfl : n = 31 := by omega
    have h1 := Lib.bitLen_le y 33 (by omega) hb
    simp only [thermographref05_leads.l0]
    rw [if_neg (by omega), show lz y = 31 from by unfold lz; omega]
  | succ d ih =>
    intro n k hn hk hb
    obtain ⟨k, rfl⟩ : ∃ m, k = m + 1 := ⟨k - 1, by omega⟩
    have hw : wrap64 (63 - (n : Int)) = ((63 - n : Nat) : Int) := by unfold wrap64; omega
    have hw2 : wrap64 ((n : Int) + 1) = ((n + 1 : Nat) : Int) := by unfold wrap64; omega
    have hp : (2 : Nat) ^ (64 - n) = 2 ^ (63 - n) * 2 := by rw [← Nat.pow_succ]; congr 1; omega
    have hp0 : 0 < (2 : Nat) ^ (63 - n) := Nat.pow_pos (by omega)
    have hq : y / 2 ^ (63 - n) < 2 := by rw [Nat.div_lt_iff_lt_mul hp0]; omega
    simp only [thermographref05_leads.l0]
    rw [if_pos (by omega), hw, if_pos (by omega), bit_at y (63 - n) hy (by omega)]
    by_cases h : y < 2 ^ (63 - n)
    · have e : y / 2 ^ (63 - n) = 0 := Nat.div_eq_of_lt h
      rw [if_pos (by rw [e]; rfl), hw2]
      exact ih (n + 1) k (by omega) (by omega) (by rw [show 64 - (n + 1) = 63 - n from by omega]; exact h)
    · have e : y / 2 ^ (63 - n) = 1 := by
        have : 1 ≤ y / 2 ^ (63 - n) := (Nat.le_div_iff_mul_le hp0).2 (by omega)
        omega
      rw [if_neg (by rw [e]; decide)]
      have h1 := Lib.bitLen_le y (64 - n) (by omega) hb
      have h2 : y < 2 ^ Lib.bitLen y := bitLenAux_lt 64 y hy
      have h3 : 63 - n < Lib.bitLen y := (Nat.pow_lt_pow_iff_right (by omega : 1 < 2)).1 (show 2 ^ (63 - n) < 2 ^ Lib.bitLen y from by omega)
      rw [show lz y = n from by unfold lz; omega]
theorem leads_f {y : Nat} (hy : y < 18446744073709551616) {k : Nat} (hk : 32 ≤ k) : thermographref05_leads.f k (y : Int) = some ((lz y : Nat) : Int) := leads_l0 y hy 31 0 k rfl (by omega) hy
theorem trails_l0 (y : Nat) (h0 : y ≠ 0) (hy : y < 18446744073709551616) : ∀ (d n k : Nat), n + d = tz y → d < k → thermographref05_trails.l0 k (y : Int) (n : Int) = some ((tz y : Nat) : Int) := by
  obtain ⟨m, hm, ht⟩ := tz_low h0 hy
  intro d
  induction d with
  | zero =>
    intro n k hn hk
    obtain ⟨k, rfl⟩ : ∃ m, k = m + 1 := ⟨k - 1, by omega⟩
    obtain rfl : n = tz y := by omega
    have e : y / 2 ^ tz y = 2 * m + 1 := by
      conv => lhs; lhs; rw [hm]
      exact Nat.mul_div_cancel_left _ (Nat.pow_pos (by omega))
    simp only [thermographref05_trails.l0]
    rw [if_pos (by omega), if_pos (by omega), bit_at y (tz y) hy (by omega), if_neg (by rw [e]; omega)]
  | succ d ih =>
    intro n k hn hk
    obtain ⟨k, rfl⟩ : ∃ m, k = m + 1 := ⟨k - 1, by omega⟩
    have hw2 : wrap64 ((n : Int) + 1) = ((n + 1 : Nat) : Int) := by unfold wrap64; omega
    have e : y / 2 ^ n % 2 = 0 := by
      have h1 : y = 2 ^ n * (2 * (2 ^ d * (2 * m + 1))) := by
        conv => lhs; rw [hm]
        rw [← hn, show n + (d + 1) = n + d + 1 from rfl, Nat.pow_succ, Nat.pow_add, Nat.mul_assoc, Nat.mul_assoc, Nat.mul_left_comm]
        simp only [Nat.mul_left_comm, Nat.mul_comm, Nat.mul_assoc]
      rw [h1, Nat.mul_div_cancel_left _ (Nat.pow_pos (by omega))]
      omega
    simp only [thermographref05_trails.l0]
    rw [if_pos (by omega), if_pos (by omega), bit_at y n hy (by omega), if_pos (by rw [e]; rfl), hw2]
    exact ih (n + 1) k (by omega) (by omega)
theorem trails_f {y : Nat} (h0 : y ≠ 0) (hy : y < 18446744073709551616) {k : Nat} (hk : 65 ≤ k) : thermographref05_trails.f k (y : Int) = some ((tz y : Nat) : Int) := by
  have := tz_low h0 hy
  exact trails_l0 y h0 hy (tz y) 0 k (by omega) (by omega)

/-- The document's window. -/
def rb : Win → Bool
  | none => false
  | some _ => true
def rl : Win → Int
  | none => 0
  | some p => p.1
def rt : Win → Int
  | none => 0
  | some p => p.2
theorem ref_time_f {x : Int} (hx0 : -9223372036854775808 ≤ x) (hx1 : x < 9223372036854775808) {l : List Int} (hl : l.length ≤ 140737470000000) {k : Nat} (hk : 100 ≤ k) : thermographref05_time.f k l x = some (l ++ timeB x) := by
  obtain ⟨k, rfl⟩ : ∃ m, k = m + 3 := ⟨k - 3, by omega⟩
  have put : ∀ (k' v m : Nat) (n : Int) (vi : Int) (l' : List Int), 65 ≤ k' → v < 18446744073709551616 → vi = (v : Int) → cutN n = m → l'.length ≤ 140737480000000 → thermographref03_Put.f k' l' vi n = some (l' ++ bitsOf v m) := by
    intro k' v m n vi l' h1 h2 h3 h4 h5
    subst h3 h4
    exact ref_Put_f h2 h1 h5
  have hc : ∀ (a : Int) (hlo : 0 ≤ x + a) (hhi : x + a ≤ 9000000) (ha : 0 ≤ a ∧ a ≤ 5000), IntKind.u64.wrap (wrap64 (x + a)) = (((x + a).toNat : Nat) : Int) := by
    intro a hlo hhi ha
    rw [show wrap64 (x + a) = x + a from by unfold wrap64; omega, IntKind.wrap_u64]
    omega
  unfold thermographref05_time.f timeB
  by_cases h0 : x = 0
  · rw [if_pos h0, if_pos h0, put (k + 3) 0 1 1 0 l (by omega) (by omega) rfl rfl (by omega)]
    rfl
  rw [if_neg h0, if_neg h0]
  by_cases h1 : -63 ≤ x ∧ x ≤ 64
  · rw [if_pos h1, if_pos (show x ≥ -63 from h1.1)]
    simp only [thermographref05_time.j0]
    rw [if_pos (decide_eq_true h1.2), put (k + 2) 2 2 2 2 l (by omega) (by omega) rfl rfl (by omega)]
    simp only [Option.bind_some]
    rw [put (k + 2) (x + 63).toNat 7 7 _ _ (by omega) (by omega) (hc 63 (by omega) (by omega) (by omega)) rfl (by rw [List.length_append, bitsOf_length]; omega)]
    simp only [Option.bind_some, List.append_assoc]
  rw [if_neg h1]
  have e0 : ∀ b : Bool, (if x ≥ -63 then thermographref05_time.j0 (k + 3) l x (decide (x ≤ 64)) else thermographref05_time.j0 (k + 3) l x false) = thermographref05_time.j0 (k + 3) l x false := by
    intro b
    by_cases h : x ≥ -63
    · rw [if_pos h, decide_eq_false (fun h2 => h1 ⟨h, h2⟩)]
    · rw [if_neg h]
  rw [e0 true]
  simp only [thermographref05_time.j0]
  rw [if_neg (by decide)]
  by_cases h2 : -255 ≤ x ∧ x ≤ 256
  · rw [if_pos h2, if_pos (show x ≥ -255 from h2.1)]
    simp only [thermographref05_time.j1]
    rw [if_pos (decide_eq_true h2.2), put (k + 1) 6 3 3 6 l (by omega) (by omega) rfl rfl (by omega)]
    simp only [Option.bind_some]
    rw [put (k + 1) (x + 255).toNat 9 9 _ _ (by omega) (by omega) (hc 255 (by omega) (by omega) (by omega)) rfl (by rw [List.length_append, bitsOf_length]; omega)]
    simp only [Option.bind_some, List.append_assoc]
  rw [if_neg h2]
  have e1 : (if x ≥ -255 then thermographref05_time.j1 (k + 2) l x (decide (x ≤ 256)) else thermographref05_time.j1 (k + 2) l x false) = thermographref05_time.j1 (k + 2) l x false := by
    by_cases h : x ≥ -255
    · rw [if_pos h, decide_eq_false (fun h3 => h2 ⟨h, h3⟩)]
    · rw [if_neg h]
  rw [e1]
  simp only [thermographref05_time.j1]
  rw [if_neg (by decide)]
  by_cases h3 : -2047 ≤ x ∧ x ≤ 2048
  · rw [if_pos h3, if_pos (show x ≥ -2047 from h3.1)]
    simp only [thermographref05_time.j2]
    rw [if_pos (decide_eq_true h3.2), put k 14 4 4 14 l (by omega) (by omega) rfl rfl (by omega)]
    simp only [Option.bind_some]
    rw [put k (x + 2047).toNat 12 12 _ _ (by omega) (by omega) (hc 2047 (by omega) (by omega) (by omega)) rfl (by rw [List.length_append, bitsOf_length]; omega)]
    simp only [Option.bind_some, List.append_assoc]
  rw [if_neg h3]
  have e2 : (if x ≥ -2047 then thermographref05_time.j2 (k + 1) l x (decide (x ≤ 2048)) else thermographref05_time.j2 (k + 1) l x false) = thermographref05_time.j2 (k + 1) l x false := by
    by_cases h : x ≥ -2047
    · rw [if_pos h, decide_eq_false (fun h4 => h3 ⟨h, h4⟩)]
    · rw [if_neg h]
  rw [e2]
  simp only [thermographref05_time.j2]
  rw [if_neg (by decide), put k 15 4 4 15 l (by omega) (by omega) rfl rfl (by omega)]
  simp only [Option.bind_some]
  rw [put k (x % 18446744073709551616).toNat 64 64 _ _ (by omega) (by omega) (by rw [IntKind.wrap_u64]; omega) rfl (by rw [List.length_append, bitsOf_length]; omega)]
  simp only [Option.bind_some, List.append_assoc]
theorem ref_value_f {y : Nat} (hy : y < 18446744073709551616) {w : Win} (hw : w.Ok) {l : List Int} (hl : l.length ≤ 140737470000000) {k : Nat} (hk : 100 ≤ k) :
    thermographref05_value.f k l (rb w) (rl w) (rt w) (y : Int) = some (l ++ (valueB y w).1, rb (valueB y w).2, rl (valueB y w).2, rt (valueB y w).2) := by
  obtain ⟨k, rfl⟩ : ∃ m, k = m + 1 := ⟨k - 1, by omega⟩
  have put : ∀ (k' v m : Nat) (n : Int) (vi : Int) (l' : List Int), 65 ≤ k' → v < 18446744073709551616 → vi = (v : Int) → cutN n = m → l'.length ≤ 140737480000000 → thermographref03_Put.f k' l' vi n = some (l' ++ bitsOf v m) := by
    intro k' v m n vi l' h1 h2 h3 h4 h5
    subst h3 h4
    exact ref_Put_f h2 h1 h5
  unfold thermographref05_value.f valueB
  by_cases h0 : y = 0
  · rw [if_pos (by omega), if_pos h0, put (k + 1) 0 1 1 0 l (by omega) (by omega) rfl rfl (by omega)]
    rfl
  have hlt := lz_tz h0 hy
  have hlz := lz_le y
  rw [if_neg (by omega), if_neg h0, leads_f hy (by omega), trails_f h0 hy (by omega)]
  simp only [Option.bind_some]
  have hj : (if rb w = true then (if ((lz y : Nat) : Int) ≥ rl w then thermographref05_value.j0 (k + 1) l (y : Int) ((lz y : Nat) : Int) ((tz y : Nat) : Int) (decide (((tz y : Nat) : Int) ≥ rt w)) (rb w) (rl w) (rt w) else thermographref05_value.j0 (k + 1) l (y : Int) ((lz y : Nat) : Int) ((tz y : Nat) : Int) false (rb w) (rl w) (rt w)) else thermographref05_value.j0 (k + 1) l (y : Int) ((lz y : Nat) : Int) ((tz y : Nat) : Int) false (rb w) (rl w) (rt w)) = thermographref05_value.j0 (k + 1) l (y : Int) ((lz y : Nat) : Int) ((tz y : Nat) : Int) (fits y w) (rb w) (rl w) (rt w) := by
    cases w with
    | none => rfl
    | some p =>
      rw [if_pos (show rb (some p) = true from rfl)]
      show (if ((lz y : Nat) : Int) ≥ (p.1 : Int) then _ else _) = _
      rw [show fits y (some p) = (decide (p.1 ≤ lz y) && decide (p.2 ≤ tz y)) from rfl]
      by_cases h : p.1 ≤ lz y
      · rw [if_pos (by omega), decide_eq_true h, Bool.true_and]
        congr 1
        rw [decide_eq_decide]
        show ((tz y : Nat) : Int) ≥ (p.2 : Int) ↔ _
        omega
      · rw [if_neg (by omega), decide_eq_false h, Bool.false_and]
  rw [hj]
  simp only [thermographref05_value.j0]
  by_cases hf : fits y w = true
  · rw [if_pos hf, if_pos hf, put k 2 2 2 2 l (by omega) (by omega) rfl rfl (by omega)]
    simp only [Option.bind_some]
    cases w with
    | none => cases hf
    | some p =>
      have hab := (hw p rfl).2
      show (if (0 : Int) ≤ (p.2 : Int) then _ else _) = _
      rw [if_pos (by omega)]
      show ((thermographref03_Put.f k (l ++ bitsOf 2 2) (shr .u64 (y : Int) (p.2 : Int)) (wrap64 (wrap64 (64 - (p.1 : Int)) - (p.2 : Int)))).bind _) = _
      have hww : wrap64 (wrap64 (64 - (p.1 : Int)) - (p.2 : Int)) = ((64 - p.1 - p.2 : Nat) : Int) := by
        rw [show wrap64 (64 - (p.1 : Int)) = 64 - (p.1 : Int) from by unfold wrap64; omega]
        unfold wrap64
        omega
      rw [hww, put k (y / 2 ^ p.2) (64 - p.1 - p.2) _ _ _ (by omega) (Nat.lt_of_le_of_lt (Nat.div_le_self _ _) hy) (shr_nat y p.2 (by omega)) (cutN_nat _ (by omega)) (by rw [List.length_append, bitsOf_length]; omega)]
      simp only [Option.bind_some, List.append_assoc]
      rfl
  · rw [if_neg hf, if_neg hf, put k 3 2 2 3 l (by omega) (by omega) rfl rfl (by omega)]
    simp only [Option.bind_some]
    rw [put k (lz y) 5 5 _ _ (by omega) (by omega) (by rw [IntKind.wrap_u64]; omega) rfl (by rw [List.length_append, bitsOf_length]; omega)]
    simp only [Option.bind_some]
    have hw1 : wrap64 (wrap64 (63 - ((lz y : Nat) : Int)) - ((tz y : Nat) : Int)) = ((63 - lz y - tz y : Nat) : Int) := by
      rw [show wrap64 (63 - ((lz y : Nat) : Int)) = 63 - ((lz y : Nat) : Int) from by unfold wrap64; omega]
      unfold wrap64
      omega
    have hw2 : wrap64 (wrap64 (64 - ((lz y : Nat) : Int)) - ((tz y : Nat) : Int)) = ((64 - lz y - tz y : Nat) : Int) := by
      rw [show wrap64 (64 - ((lz y : Nat) : Int)) = 64 - ((lz y : Nat) : Int) from by unfold wrap64; omega]
      unfold wrap64
      omega
    rw [hw1, hw2, put k (63 - lz y - tz y) 6 6 _ _ (by omega) (by omega) (by rw [IntKind.wrap_u64]; omega) rfl (by simp only [List.length_append, bitsOf_length]; omega)]
    simp only [Option.bind_some]
    rw [if_pos (by omega), put k (y / 2 ^ tz y) (64 - lz y - tz y) _ _ _ (by omega) (Nat.lt_of_le_of_lt (Nat.div_le_self _ _) hy) (shr_nat y (tz y) (by omega)) (cutN_nat _ (by omega)) (by simp only [List.length_append, bitsOf_length]; omega)]
    simp only [Option.bind_some, List.append_assoc]
    rfl
theorem ref_Encode_l0 (l : List Pt) (hk : checkF l = 0) (hok : OkL l) (u : List Int) (hu : u.length ≤ 100) : ∀ (d i k : Nat), i + d = l.length → d + 200000 ≤ k →
    thermographref05_Encode.l0 k l u (goB l i).1 (goB l i).2.1 (i : Int) (rb (goB l i).2.2.1) (rl (goB l i).2.2.1) (rt (goB l i).2.2.1) (rb (goB l i).2.2.2) (rl (goB l i).2.2.2) (rt (goB l i).2.2.2) = some (u ++ pk (bitsT l), 0) := by
  obtain ⟨hn, hT, _⟩ := checkF_zero hk
  intro d
  induction d with
  | zero =>
    intro i k hi hk'
    obtain ⟨k, rfl⟩ : ∃ m, k = m + 1 := ⟨k - 1, by omega⟩
    obtain rfl : i = l.length := by omega
    have h1 := goB_length l l.length
    have h2 := pk_length (goB l l.length).1
    simp only [thermographref05_Encode.l0]
    rw [if_neg (by omega), ref_Bytes_f (goB_isBits l _) (by omega) (by omega)]
    simp only [Option.bind_some]
    rw [if_pos (by omega)]
    rfl
  | succ d ih =>
    intro i k hi hk'
    obtain ⟨k, rfl⟩ : ∃ m, k = m + 1 := ⟨k - 1, by omega⟩
    have hlt : i < l.length := by omega
    obtain ⟨t, v, s, hp, ht, hv, hs⟩ := pt_facts hT hok hlt
    have hih := ih (i + 1) k (by omega) (by omega)
    have hw : wrap64 ((i : Int) + 1) = ((i + 1 : Nat) : Int) := by unfold wrap64; omega
    have put : ∀ (v m : Nat) (n : Int) (vi : Int) (l' : List Int), v < 18446744073709551616 → vi = (v : Int) → cutN n = m → l'.length ≤ 140737480000000 → thermographref03_Put.f k l' vi n = some (l' ++ bitsOf v m) := by
      intro v m n vi l' h2 h3 h4 h5
      subst h3 h4
      exact ref_Put_f h2 (by omega) h5
    simp only [thermographref05_Encode.l0]
    rw [if_pos (by omega)]
    rcases Nat.eq_zero_or_pos i with h0 | h0
    · subst h0
      have hr0 : rd_T33 l 0 = ⟨(t : Int), (v : Int), (s : Int)⟩ := by
        have h := rdT l 0
        rw [hp] at h
        exact h
      rw [if_pos (show ((0 : Nat) : Int) = 0 from rfl), if_pos (by omega), hr0]
      simp only
      rw [put t 64 64 _ _ (by omega) (by rw [IntKind.wrap_u64]; omega) rfl (by simp [goB])]
      simp only [Option.bind_some]
      rw [put v 64 64 _ _ hv rfl rfl (by simp [goB, bitsOf_length])]
      simp only [Option.bind_some]
      rw [put s 64 64 _ _ hs rfl rfl (by simp [goB, bitsOf_length])]
      simp only [Option.bind_some]
      rw [hw]
      rw [goB_one, hp] at hih
      exact hih
    · obtain ⟨j, rfl⟩ : ∃ j, i = j + 1 := ⟨i - 1, by omega⟩
      have hjl : j < l.length := by omega
      obtain ⟨tq, vq, sq, hq, htq, hvq, hsq⟩ := pt_facts hT hok hjl
      have hok' := goB_ok hok (j + 1)
      have hdi := goB_dist hk (j + 1) (by omega)
      have hln := goB_length l (j + 1)
      have hm : wrap64 (((j + 1 : Nat) : Int) - 1) = (j : Int) := by unfold wrap64; omega
      rw [goB_succ, hp, hq] at hih
      obtain ⟨⟨bs, d', vw, sw⟩, hr⟩ : ∃ r, goB l (j + 1) = r := ⟨_, rfl⟩
      rw [hr] at hih hok' hdi hln ⊢
      simp only at hih hok' hdi hln ⊢
      rw [if_neg (by omega), if_pos (by omega), hm, if_pos (by omega), if_pos (by omega), rdT, rdT, hp, hq]
      simp only
      rw [show wrap64 ((t : Int) - (tq : Int)) = (t : Int) - (tq : Int) from by unfold wrap64; omega, show wrap64 ((t : Int) - (tq : Int) - d') = (t : Int) - (tq : Int) - d' from by unfold wrap64; omega]
      have hl1 := (timeB_length ((t : Int) - (tq : Int) - d')).2
      have hl2 := (valueB_length (v ^^^ vq) vw).2
      rw [ref_time_f (by omega) (by omega) (by omega) (by omega)]
      simp only [Option.bind_some]
      rw [bits_xor_u64_nat v vq hv hvq, bits_xor_u64_nat s sq hs hsq, ref_value_f (Nat.xor_lt_two_pow (n := 64) hv hvq) hok'.1 (by rw [List.length_append]; omega) (by omega)]
      simp only [Option.bind_some]
      rw [ref_value_f (Nat.xor_lt_two_pow (n := 64) hs hsq) hok'.2 (by rw [List.length_append, List.length_append]; omega) (by omega)]
      simp only [Option.bind_some]
      rw [hw]
      unfold TeP.step at hih
      simp only [Int.toNat_natCast] at hih
      rw [List.append_assoc, List.append_assoc, ← List.append_assoc (timeB _)]
      exact hih
theorem ref_Encode_f {l : List Pt} (hl : l.length ≤ 1000000) (hok : OkL l) {k : Nat} (hk1 : 2 * l.length + 300000 ≤ k) (hk2 : k ≤ 1000000) : thermographref05_Encode.f k l = some (encT l) := by
  unfold thermographref05_Encode.f
  rw [ref_check_f hl (by omega)]
  simp only [Option.bind_some]
  by_cases hk : checkF l = 0
  · obtain ⟨hn, _, _⟩ := checkF_zero hk
    have hlu := uv_length10 (v := l.length) (by omega)
    rw [if_pos hk, show IntKind.u64.wrap (l.length : Int) = (l.length : Int) from by rw [IntKind.wrap_u64]; omega, ref_Uvarint_f (by omega) (by omega) hk2 (by simp)]
    simp only [Option.bind_some, List.nil_append]
    rw [encT_ok hk]
    exact ref_Encode_l0 l hk hok (uv l.length) (by omega) l.length 0 k (by omega) (by omega)
  · rw [if_neg hk, encT_bad hk]
end Go.Proofs.YtmnlbedgkjnodaaDoor.TeE
namespace Go.Proofs.YtmnlbedgkjnodaaDoor.QB
open Go.RowKit Go.Proofs.YtmnlbedgkjnodaaDoorW.PrintWords Go.Proofs.YtmnlbedgkjnodaaDoorW.PrintLast Go.Proofs.YtmnlbedgkjnodaaDoorW.PrintMore
attribute [local go_sem] max2_int min2_int max_two min_two max_three min_three max_four min_four   -- for this text's walks alone
set_option linter.unusedVariables false
set_option linter.unusedSimpArgs false

/-! ### digest_Adler: function 32 -/
mutual
def digest_Adler.l0 : Nat → List Int → Int → Int → Option (Int)
  | 0, _, _, _ => none
  | k + 1, x0, x3, x4 => if (x0.length : Int) > 0 then (if 0 ≤ (mn (x0.length : Int) 3000) then (if (mn (x0.length : Int) 3000) ≤ (x0.length : Int) then ((some (x0.take ((mn (x0.length : Int) 3000) : Int).toNat : List Int)).bind fun y288 => (digest_Adler.l1 k x0 x3 x4 y288 y288 (y288.length : Int) 0)) else (none)) else (none)) else (some (Go.bits .or .u32 ((((x4) % 4294967296) * 65536) % 4294967296) ((x3) % 4294967296)))
def digest_Adler.l1 : Nat → List Int → Int → Int → List Int → List Int → Int → Int → Option (Int)
  | 0, _, _, _, _, _, _, _ => none
  | k + 1, x0, x3, x4, x5, x16, x17, x18 => if x18 < x17 then (if 0 ≤ x18 then (if x18 < (x16.length : Int) then (digest_Adler.l1 k x0 (wrap64 (x3 + (wrap64 (rd x16 x18)))) (wrap64 (x4 + (wrap64 (x3 + (wrap64 (rd x16 x18)))))) x5 x16 x17 (wrap64 (x18 + 1))) else (none)) else (none)) else (if 0 ≤ (x5.length : Int) then (if (x5.length : Int) ≤ (x0.length : Int) then (digest_Adler.l0 k (x0.drop ((x5.length : Int) : Int).toNat) (Int.tmod x3 65521) (Int.tmod x4 65521)) else (none)) else (none))
end
def digest_Adler.f (k : Nat) (l0 : List Int) : Option (Int) := digest_Adler.l0 k l0 1 0
theorem digest_Adler.mono_l : ∀ k, (∀ y0 y1 y2, LeO (digest_Adler.l0 k y0 y1 y2) (digest_Adler.l0 (k + 1) y0 y1 y2)) ∧ (∀ y0 y1 y2 y3 y4 y5 y6, LeO (digest_Adler.l1 k y0 y1 y2 y3 y4 y5 y6) (digest_Adler.l1 (k + 1) y0 y1 y2 y3 y4 y5 y6))
  | 0 => ⟨fun _ _ _ r h => by simp [digest_Adler.l0] at h, fun _ _ _ _ _ _ _ r h => by simp [digest_Adler.l1] at h⟩
  | k + 1 => by
    obtain ⟨ih0, ih1⟩ := digest_Adler.mono_l k
    refine ⟨?_, ?_⟩
    · intro y0 y1 y2
      unfold digest_Adler.l0
      repeat' first
      | (with_reducible exact ih0 _ _ _)
      | (with_reducible exact ih1 _ _ _ _ _ _ _)
      | (with_reducible exact LeO.refl _)
      | (with_reducible exact LeO.none _)
      | (with_reducible refine LeO.ite ?_ ?_)
      | (with_reducible refine LeO.bind ?_ (fun _ => ?_))
      | exact ih0 _ _ _
      | exact ih1 _ _ _ _ _ _ _
      | exact LeO.none _
      | refine LeO.ite ?_ ?_
      | refine LeO.bind ?_ (fun _ => ?_)
    · intro y0 y1 y2 y3 y4 y5 y6
      unfold digest_Adler.l1
      repeat' first
      | (with_reducible exact ih0 _ _ _)
      | (with_reducible exact ih1 _ _ _ _ _ _ _)
      | (with_reducible exact LeO.refl _)
      | (with_reducible exact LeO.none _)
      | (with_reducible refine LeO.ite ?_ ?_)
      | (with_reducible refine LeO.bind ?_ (fun _ => ?_))
      | exact ih0 _ _ _
      | exact ih1 _ _ _ _ _ _ _
      | exact LeO.none _
      | refine LeO.ite ?_ ?_
      | refine LeO.bind ?_ (fun _ => ?_)
theorem digest_Adler.mono : ∀ a0 k, LeO (digest_Adler.f k a0) (digest_Adler.f (k + 1) a0) := by
  intro a0 k
  obtain ⟨ih0, ih1⟩ := digest_Adler.mono_l k
  unfold digest_Adler.f
  repeat' first
      | (with_reducible exact ih0 _ _ _)
      | (with_reducible exact ih1 _ _ _ _ _ _ _)
      | (with_reducible exact LeO.refl _)
      | (with_reducible exact LeO.none _)
      | (with_reducible refine LeO.ite ?_ ?_)
      | (with_reducible refine LeO.bind ?_ (fun _ => ?_))
      | exact ih0 _ _ _
      | exact ih1 _ _ _ _ _ _ _
      | exact LeO.none _
      | refine LeO.ite ?_ ?_
      | refine LeO.bind ?_ (fun _ => ?_)
set_option maxHeartbeats 8000000 in
set_option maxRecDepth 100000 in
theorem digest_Adler.calls (k : Nat) (P0_ : Nat → Prop) (A0 : Option Addr) (c0 : Nat) (l0 : List Int) (r : Int) (w : World) (hs0 : Kd.V (Kd.int .u8) 5 w w.heap.size (fun k_ => P0_ k_) (.slice A0 l0.length c0) l0) (h : digest_Adler.f k l0 = some r) :
    Calls Tryd.prog 32 #[.slice A0 l0.length c0] w fun e w' => e = .returned (.int .u32 r) ∧ Below w.heap.size w w' := by
  have HO0 := Aside0.mk (show Kd.V (Kd.int .u8) 5 w w.heap.size (fun k_ => (P0_ k_ ∨ w.heap.size ≤ k_)) (.slice A0 l0.length c0) l0 from Kd.V_mono hs0 (fun k_ hk => .inl hk))
  have HB := Aside0.mk (Below.refl w.heap.size w)
  have H : (digest_Adler.l0 k l0 1 0) = some r := h
  clear h
  have H' := Aside0.mk H
  clear H
  go_enter Tryd.func32, Tryd.ntmps32
  go_wp2
  repeat (go_quiet (fail); try go_wp2)
  go_loopg [0, 3, 4] k (fun kq v0 v3 v4 w' => ∃ (x0_1 : List Int) (x3_1 : Int) (x4_1 : Int), v3 = .int .i64 x3_1 ∧ v4 = .int .i64 x4_1 ∧ Aside0 (digest_Adler.l0 kq x0_1 x3_1 x4_1 = some r) ∧ Aside0 (kq ≤ k) ∧ Aside0 (Kd.V (Kd.int .u8) 5 w' w.heap.size (fun k_ => (P0_ k_ ∨ w.heap.size ≤ k_)) v0 x0_1) ∧ Aside0 (Below w.heap.size w w'))
  case atStart => exact ⟨(l0), (1), (0), (by first | rfl | (simp; done) | (simp [*]; done)), (by first | rfl | (simp; done) | (simp [*]; done)), H', ⟨Nat.le_refl _⟩, ⟨by (with_reducible repeat (first | apply Kd.V_alloc | apply Kd.V_drewN | apply Kd.V_drew)); exact HO0.out⟩, ⟨by repeat (first | (with_reducible first | exact HB.out | apply below_alloc | apply pw_below_drewN | apply below_drew1) | exact HB.out)⟩⟩
  case round =>
    clear H'
    obtain ⟨x0_1, x3_1, x4_1, rfl, rfl, HA, HK1, HO_0, HB⟩ := hrel
    cases gk with
    | zero => exact absurd HA.out (by simp [digest_Adler.l0])
    | succ k1 =>
      have H := HA.out
      clear HA
      simp only [digest_Adler.l0] at H
      by_cases c2 : (x0_1.length : Int) > 0
      · rw [if_pos c2] at H
        have c2b0 : decide (0 < (x0_1.length : Int)) = true := decide_eq_true c2
        have c2b1 : decide (0 < x0_1.length) = true := decide_eq_true (by omega)
        clear c2
        obtain ⟨ji3, hji3⟩ : ∃ j_ : Int, (mn (x0_1.length : Int) 3000) = j_ := ⟨_, rfl⟩
        replace H : (if 0 ≤ (ji3) then (if (ji3) ≤ (x0_1.length : Int) then ((some (x0_1.take ((ji3) : Int).toNat : List Int)).bind fun y288 => (digest_Adler.l1 k1 x0_1 x3_1 x4_1 y288 y288 (y288.length : Int) 0)) else (none)) else (none)) = some r := by first | (rw [hji3] at H; exact H) | (simp only [hji3] at H ⊢; exact H)
        have hji3_ : (if 3000 < (x0_1.length : Int) then 3000 else (x0_1.length : Int)) = ji3 := hji3
        by_cases c4 : 0 ≤ (ji3)
        · rw [if_pos c4] at H
          have c4b0 := eq_true c4
          have c4b1 : decide (0 ≤ (ji3)) = true := decide_eq_true c4
          clear c4
          by_cases c5 : (ji3) ≤ (x0_1.length : Int)
          · rw [if_pos c5] at H
            have c5b0 := eq_true c5
            have c5b1 : decide ((ji3) ≤ (x0_1.length : Int)) = true := decide_eq_true c5
            clear c5
            obtain ⟨y288, hy288⟩ : ∃ y_ : List Int, y_ = (x0_1.take ((ji3) : Int).toNat) := ⟨_, rfl⟩
            replace H : (digest_Adler.l1 k1 x0_1 x3_1 x4_1 y288 y288 (y288.length : Int) 0) = some r := by first | (rw [hy288]; with_reducible exact H) | (have H2_ := (Option.bind_some _ _).symm.trans H; rw [hy288]; with_reducible exact H2_) | (have H2_ := (Option.bind_some _ _).symm.trans H; with_reducible exact H2_) | with_reducible exact H | (rw [hy288]; exact H) | exact H
            have Ny288 := Aside0.mk hy288
            clear hy288
            have H' := Aside0.mk H
            clear H
            obtain ⟨Ao6, co6, eo6⟩ := Kd.V_slice HO_0.out
            subst eo6
            have q7 : ((ji3) : Int) ≤ ((x0_1.length : Int) : Int) := of_decide_eq_true (by first | (with_reducible assumption) | assumption)
            obtain ⟨i07, hi07, _, hsz7, _⟩ := info_parts info5
            have hroom7 : x0_1.length ≤ co6 := (Kd.V_reads' HO_0.out).2.1
            have hC7 : Kd.F (Kd.int .u8) _ _ Ao6 x0_1.length x0_1 := (Kd.V_at (base := w.heap.size) HO_0.out).2.2
            have hcut7 := cut_to (P := Tryd.prog) 23 5 .i64 Tryd.underlying23 hi07 Ao6 x0_1.length co6 (ji3) (of_decide_eq_true (by first | (with_reducible assumption) | assumption)) q7 hroom7
            have hr7 := Kd.F_take (m := ((ji3) : Int).toNat) hC7 (by omega)
            have hy7 : y288.length = ((ji3) : Int).toNat := (by rw [Ny288.out, List.length_take]; omega)
            rw [← Ny288.out] at hr7
            rw [← hy7] at hcut7
            have HO292 := Aside0.mk (show Kd.V (Kd.int .u8) 5 _ w.heap.size _ (.slice Ao6 y288.length co6) y288 from Kd.V_mk (by omega) hr7)
            have HC292 := Aside0.mk (show y288.length ≤ co6 from by omega)
            clear hr7 hC7 hroom7 hi07 hsz7
            have KY7 := Aside0.mk hy7
            clear hy7
            replace q7 := eq_true q7
            go_wp2
            repeat (go_quiet (fail); try go_wp2)
            go_loopg [3, 4, 18] k1 (fun kq v3 v4 v18 w' => ∃ (x3_2 : Int) (x4_2 : Int) (x18_2 : Int), v3 = .int .i64 x3_2 ∧ v4 = .int .i64 x4_2 ∧ v18 = .int .i64 x18_2 ∧ Aside0 (digest_Adler.l1 kq x0_1 x3_2 x4_2 y288 y288 (y288.length : Int) x18_2 = some r) ∧ Aside0 (kq ≤ k1) ∧ Aside0 (Kd.V (Kd.int .u8) 5 w' w.heap.size (fun k_ => (P0_ k_ ∨ w.heap.size ≤ k_)) (.slice Ao6 x0_1.length co6) x0_1) ∧ Aside0 (Kd.V (Kd.int .u8) 5 w' w.heap.size (fun k_ => (P0_ k_ ∨ w.heap.size ≤ k_)) (.slice Ao6 y288.length co6) y288) ∧ Aside0 (Kd.V (Kd.int .u8) 5 w' w.heap.size (fun k_ => (P0_ k_ ∨ w.heap.size ≤ k_)) (.slice Ao6 y288.length co6) y288) ∧ Aside0 (Below w.heap.size w w'))
            case atStart => exact ⟨(x3_1), (x4_1), (0), (by first | rfl | (simp; done) | (simp [*]; done)), (by first | rfl | (simp; done) | (simp [*]; done)), (by first | rfl | (simp; done) | (simp [*]; done)), H', ⟨Nat.le_refl _⟩, ⟨by (with_reducible repeat (first | apply Kd.V_alloc | apply Kd.V_drewN | apply Kd.V_drew)); exact HO_0.out⟩, ⟨by (with_reducible repeat (first | apply Kd.V_alloc | apply Kd.V_drewN | apply Kd.V_drew)); exact HO292.out⟩, ⟨by (with_reducible repeat (first | apply Kd.V_alloc | apply Kd.V_drewN | apply Kd.V_drew)); exact HO292.out⟩, ⟨by repeat (first | (with_reducible first | exact HB.out | apply below_alloc | apply pw_below_drewN | apply below_drew1) | exact HB.out)⟩⟩
            case round =>
              clear H'
              try clear c2
              try clear c2b0
              try clear c2b1
              try clear p2
              try clear c3
              try clear c4
              try clear c4b0
              try clear c4b1
              try clear c5
              try clear c5b0
              try clear c5b1
              try clear q7
              try clear q7
              obtain ⟨x3_2, x4_2, x18_2, rfl, rfl, rfl, HA, HK2, HO_0, HO_5, HO_16, HB⟩ := hrel
              cases gk with
              | zero => exact absurd HA.out (by simp [digest_Adler.l1])
              | succ k2 =>
                have H := HA.out
                clear HA
                simp only [digest_Adler.l1] at H
                by_cases c8 : x18_2 < (y288.length : Int)
                · rw [if_pos c8] at H
                  have c8b0 : decide (x18_2 < (y288.length : Int)) = true := decide_eq_true c8
                  clear c8
                  by_cases c9 : 0 ≤ x18_2
                  · rw [if_pos c9] at H
                    have c9b0 : decide (0 ≤ x18_2) = true := decide_eq_true c9
                    clear c9
                    by_cases c10 : x18_2 < (y288.length : Int)
                    · rw [if_pos c10] at H
                      have c10b0 : decide (x18_2 < (y288.length : Int)) = true := decide_eq_true c10
                      clear c10
                      have H' := Aside0.mk H
                      clear H
                      have p293 : 0 ≤ (x18_2 : Int) := of_decide_eq_true (by first | (with_reducible assumption) | assumption)
                      have q293 : x18_2 < (y288.length : Int) := of_decide_eq_true (by first | (with_reducible assumption) | assumption)
                      obtain ⟨ad293, e293, hx293_0⟩ := Kd.at_int (Kd.V_reads' HO_16.out).2.2 x18_2 p293 q293
                      cases e293
                      replace p293 := eq_true p293
                      replace q293 := eq_true q293
                      go_wp2
                      repeat (go_quiet (fail); try go_wp2)
                      go_roundg k2
                      case measure => have := HK1.out; have := HK2.out; omega
                      case rel => exact ⟨(wrap64 (x3_2 + (wrap64 (rd y288 x18_2)))), (wrap64 (x4_2 + (wrap64 (x3_2 + (wrap64 (rd y288 x18_2)))))), (wrap64 (x18_2 + 1)), (by first | rfl | (simp; done) | (simp [*]; done)), (by first | rfl | (simp; done) | (simp [*]; done)), (by first | rfl | (simp; done) | (simp [*]; done)), H', ⟨by have := HK1.out; have := HK2.out; omega⟩, ⟨by (with_reducible repeat (first | apply Kd.V_alloc | apply Kd.V_drewN | apply Kd.V_drew)); exact HO_0.out⟩, ⟨by (with_reducible repeat (first | apply Kd.V_alloc | apply Kd.V_drewN | apply Kd.V_drew)); exact HO_5.out⟩, ⟨by (with_reducible repeat (first | apply Kd.V_alloc | apply Kd.V_drewN | apply Kd.V_drew)); exact HO_16.out⟩, ⟨by repeat (first | (with_reducible first | exact HB.out | apply below_alloc | apply pw_below_drewN | apply below_drew1) | exact HB.out)⟩⟩
                    · rw [if_neg c10] at H
                      exact absurd H (by simp)
                  · rw [if_neg c9] at H
                    exact absurd H (by simp)
                · rw [if_neg c8] at H
                  have c8b0 : decide (x18_2 < (y288.length : Int)) = false := decide_eq_false c8
                  clear c8
                  by_cases c11 : 0 ≤ (y288.length : Int)
                  · rw [if_pos c11] at H
                    have c11b0 := eq_true c11
                    have c11b1 : decide (0 ≤ (y288.length : Int)) = true := decide_eq_true c11
                    clear c11
                    by_cases c12 : (y288.length : Int) ≤ (x0_1.length : Int)
                    · rw [if_pos c12] at H
                      have c12b0 := eq_true c12
                      have c12b1 : decide ((y288.length : Int) ≤ (x0_1.length : Int)) = true := decide_eq_true c12
                      clear c12
                      obtain ⟨y294, hy294⟩ : ∃ y_ : List Int, y_ = (x0_1.drop ((y288.length : Int) : Int).toNat) := ⟨_, rfl⟩
                      replace H : (digest_Adler.l0 k2 y294 (Int.tmod x3_2 65521) (Int.tmod x4_2 65521)) = some r := by first | (rw [hy294]; with_reducible exact H) | (have H2_ := (Option.bind_some _ _).symm.trans H; rw [hy294]; with_reducible exact H2_) | (have H2_ := (Option.bind_some _ _).symm.trans H; with_reducible exact H2_) | with_reducible exact H | (rw [hy294]; exact H) | exact H
                      have Ny294 := Aside0.mk hy294
                      clear hy294
                      have H' := Aside0.mk H
                      clear H
                      have q13 : ((y288.length : Int) : Int) ≤ ((x0_1.length : Int) : Int) := of_decide_eq_true (by first | (with_reducible assumption) | assumption)
                      obtain ⟨i013, hi013, _, hsz13, _⟩ := info_parts info5
                      have hroom13 : x0_1.length ≤ co6 := (Kd.V_reads' HO_0.out).2.1
                      have hC13 : Kd.F (Kd.int .u8) _ _ Ao6 x0_1.length x0_1 := (Kd.V_at (base := w.heap.size) HO_0.out).2.2
                      have q013 : (0 : Int) ≤ ((y288.length : Int) : Int) := of_decide_eq_true (by first | (with_reducible assumption) | assumption)
                      have hcut13 := cut_from (P := Tryd.prog) 23 5 .i64 Tryd.underlying23 hi013 1 hsz13 Ao6 x0_1.length co6 (y288.length : Int) q013 q13
                      have hr13 := Kd.F_cut (m := ((y288.length : Int) : Int).toNat) (c := co6) hC13 (by omega) hroom13
                      obtain ⟨A13, hA13⟩ : ∃ A1, A1 = (if co6 = ((y288.length : Int) : Int).toNat then Ao6 else (Ao6 : Option Addr).map (·.add (((y288.length : Int) : Int).toNat * 1))) := ⟨_, rfl⟩
                      obtain ⟨c13, hc13⟩ : ∃ c1, c1 = co6 - ((y288.length : Int) : Int).toNat := ⟨_, rfl⟩
                      have hy13 : y294.length = x0_1.length - ((y288.length : Int) : Int).toNat := (by rw [Ny294.out, List.length_drop] <;> omega)
                      rw [show (x0_1).drop ((y288.length : Int) : Int).toNat = y294 from Ny294.out.symm] at hr13
                      replace hr13 : Kd.F (Kd.int .u8) _ _ A13 y294.length y294 := (by rw [hA13]; exact hr13)
                      rw [← hy13, ← hA13, ← hc13] at hcut13
                      have HO298 := Aside0.mk (show Kd.V (Kd.int .u8) 5 _ w.heap.size _ (.slice A13 y294.length c13) y294 from Kd.V_mk (by rw [hy13, hc13]; exact Nat.sub_le_sub_right hroom13 _) hr13)
                      have HC298 := Aside0.mk (show y294.length ≤ c13 from by rw [hy13, hc13]; exact Nat.sub_le_sub_right hroom13 _)
                      clear hr13 hC13 hroom13 hi013 hsz13 hc13
                      have KY13 := Aside0.mk hy13
                      have KA13 := Aside0.mk hA13
                      clear hy13 hA13
                      replace q13 := eq_true q13
                      go_wp2
                      repeat (go_quiet (fail); try go_wp2)
                      go_roundg k2
                      case measure => have := HK1.out; have := HK2.out; omega
                      case rel => exact ⟨(y294), (Int.tmod x3_2 65521), (Int.tmod x4_2 65521), (by first | rfl | (simp; done) | (simp [*]; done)), (by first | rfl | (simp; done) | (simp [*]; done)), H', ⟨by have := HK1.out; have := HK2.out; omega⟩, ⟨by (with_reducible repeat (first | apply Kd.V_alloc | apply Kd.V_drewN | apply Kd.V_drew)); exact HO298.out⟩, ⟨by repeat (first | (with_reducible first | exact HB.out | apply below_alloc | apply pw_below_drewN | apply below_drew1) | exact HB.out)⟩⟩
                    · rw [if_neg c12] at H
                      exact absurd H (by simp)
                  · rw [if_neg c11] at H
                    exact absurd H (by simp)
          · rw [if_neg c5] at H
            exact absurd H (by simp)
        · rw [if_neg c4] at H
          exact absurd H (by simp)
      · rw [if_neg c2] at H
        have c2b0 : decide (0 < (x0_1.length : Int)) = false := decide_eq_false c2
        have c2b1 : decide (0 < x0_1.length) = false := decide_eq_false (by omega)
        clear c2
        obtain rfl := Option.some.inj H
        obtain ⟨Ao14, co14, eo14⟩ := Kd.V_slice HO_0.out
        subst eo14
        go_wp2
        repeat (go_quiet (fail); try go_wp2)
        go_ret
        exact ⟨by first | rfl | (simp [errW_none, errW_some] <;> rfl) | (simp [*, errW_none, errW_some] <;> rfl), by repeat (first | (with_reducible first | exact HB.out | apply below_alloc | apply pw_below_drewN | apply below_drew1) | exact HB.out)⟩

/-! ### tsz_Sum: function 15 -/
def tsz_Sum.f (k : Nat) (l0 : List (S33)) : Option (Int × Int) := (tsz_Encode.f l0).bind fun bt299 => (if bt299.2 = 0 then ((digest_Adler.f k bt299.1).bind fun t303 => (some (t303, 0))) else (some (0, bt299.2)))
theorem tsz_Sum.mono : ∀ a0 k, LeO (tsz_Sum.f k a0) (tsz_Sum.f (k + 1) a0) := by
  intro a0 k
  unfold tsz_Sum.f
  repeat' first
      | (with_reducible exact digest_Adler.mono _ _)
      | (with_reducible exact LeO.refl _)
      | (with_reducible exact LeO.none _)
      | (with_reducible refine LeO.ite ?_ ?_)
      | (with_reducible refine LeO.bind ?_ (fun _ => ?_))
      | exact digest_Adler.mono _ _
      | exact LeO.none _
      | refine LeO.ite ?_ ?_
      | refine LeO.bind ?_ (fun _ => ?_)
set_option maxHeartbeats 8000000 in
set_option maxRecDepth 100000 in
theorem tsz_Sum.calls (k : Nat) (A0 : Option Addr) (c0 : Nat) (l0 : List (S33)) (r1 : Int) (r2 : Int) (w : World) (hr0 : Kd.C k33 w A0 l0.length l0) (hc0 : l0.length ≤ c0) (h : tsz_Sum.f k l0 = some (r1, r2)) (hL : Ld.LaidW w) :
    Calls Tryd.prog 15 #[.slice A0 l0.length c0] w fun e w' => e = .returned (.tuple #[.int .u32 r1, .int .i64 r2]) ∧ Below w.heap.size w w' := by
  have HL := Aside0.mk hL
  clear hL
  have HR0 := Aside0.mk hr0
  have HC0 := Aside0.mk hc0
  clear hr0 hc0
  have HB := Aside0.mk (Below.refl w.heap.size w)
  have H : ((tsz_Encode.f l0).bind fun bt299 => (if bt299.2 = 0 then ((digest_Adler.f k bt299.1).bind fun t303 => (some (t303, 0))) else (some (0, bt299.2)))) = some (r1, r2) := h
  clear h
  replace H := Option.bind_eq_some_iff.mp H
  obtain ⟨⟨t299, t300⟩, A20, H⟩ := H
  replace H : (if t300 = 0 then ((digest_Adler.f k t299).bind fun t303 => (some (t303, 0))) else (some (0, t300))) = some (r1, r2) := H
  have A2 := Aside0.mk A20
  clear A20
  by_cases c3 : t300 = 0
  · rw [if_pos c3] at H
    have c3b0 : (t300 == 0) = true := beq_iff_eq.mpr c3
    have c3b1 : (t300 != 0) = false := bne_eq_false_iff_eq.mpr c3
    clear c3
    replace H := Option.bind_eq_some_iff.mp H
    obtain ⟨t303, A40, H⟩ := H
    replace H : (some (t303, 0)) = some (r1, r2) := H
    have A4 := Aside0.mk A40
    clear A40
    simp only [Option.some.injEq, Prod.mk.injEq] at H
    obtain ⟨rfl, rfl⟩ := H
    go_enter Tryd.func15, Tryd.ntmps15
    go_wp2_with (first | ((with_reducible refine gate_callee (f := 11) rfl ?_); refine goesL_ (some 8) rfl rfl Tryd.func11 (by kernel_rfl) rfl #[.slice A0 l0.length c0] rfl (by (try simp only [List.map_toArray, List.map_cons, List.map_nil]); first | done | rfl | (simp only [List.length_drop, List.length_take]; rfl)) ?_; (with_reducible refine (tsz_Encode.calls _ _ l0 t299 t300 _ ?side1 ?side2 A2.out ?sideL).mono ?_); (case sideL => exact Ld.LaidW.below HL.out (by repeat (first | (with_reducible first | exact HB.out | apply below_alloc | apply pw_below_drewN | apply below_drew1) | exact HB.out))); (case side1 => repeat (first | exact HR0.out | (with_reducible refine Kd.C_alloc ?_ _) | (with_reducible refine Kd.C_drewN ?_ _) | (with_reducible refine Kd.C_drew ?_))); (case side2 => exact HC0.out); rintro e w5 ⟨v301, rfl, ho0, hb⟩; refine ⟨_, rfl, ?_⟩; have n0_ := Aside0.mk (Kd.R_lower ho0 (below_size (by repeat (first | (with_reducible first | exact HB.out | apply below_alloc | apply pw_below_drewN | apply below_drew1) | exact HB.out)))); have n1_ := Aside0.mk (below_step (by repeat (first | (with_reducible first | exact HB.out | apply below_alloc | apply pw_below_drewN | apply below_drew1) | exact HB.out)) hb); clear HB; have HO302 := n0_; have HB := n1_; clear n0_ n1_; (try clear hb); (try clear hb2); (try clear hk); (try clear hi); (try clear ho0); obtain ⟨Ao6, co6, eo6⟩ := Kd.R_slice HO302.out; subst eo6) | ((with_reducible refine gate_callee (f := 32) rfl ?_); refine goesL_ (some 15) rfl rfl Tryd.func32 (by kernel_rfl) rfl #[.slice Ao6 t299.length co6] rfl (by (try simp only [List.map_toArray, List.map_cons, List.map_nil]); first | done | rfl | (simp only [List.length_drop, List.length_take]; rfl)) ?_; (with_reducible refine (digest_Adler.calls k (fun k_ => some k_ = (.slice Ao6 t299.length co6 : Value).ownBlock) _ _ t299 t303 _ ?side1 A4.out).mono ?_); (case side1 => exact Kd.R_V (Kd.R_tight rfl (HO302.out))); rintro e w7 ⟨rfl, hb⟩; refine ⟨_, rfl, ?_⟩; have n0_ := Aside0.mk (Kd.R_below (by (with_reducible repeat (first | apply Kd.R_alloc | apply Kd.R_drewN | apply Kd.R_drew)); exact HO302.out) hb); have n1_ := Aside0.mk (below_step (by repeat (first | (with_reducible first | exact HB.out | apply below_alloc | apply pw_below_drewN | apply below_drew1) | exact HB.out)) hb); clear HO302; clear HB; have HO302 := n0_; have HB := n1_; clear n0_ n1_; (try clear hb); (try clear hb2); (try clear hk); (try clear hi)))
    go_ret2
    exact ⟨by first | rfl | (simp [errW_none, errW_some] <;> rfl) | (simp [*, errW_none, errW_some] <;> rfl), by repeat (first | (with_reducible first | exact HB.out | apply below_alloc | apply pw_below_drewN | apply below_drew1) | exact HB.out)⟩
  · rw [if_neg c3] at H
    have c3b0 : (t300 == 0) = false := beq_eq_false_iff_ne.mpr c3
    have c3b1 : (t300 != 0) = true := bne_iff_ne.mpr c3
    simp only [Option.some.injEq, Prod.mk.injEq] at H
    obtain ⟨rfl, rfl⟩ := H
    go_enter Tryd.func15, Tryd.ntmps15
    go_wp2_with (first | ((with_reducible refine gate_callee (f := 11) rfl ?_); refine goesL_ (some 8) rfl rfl Tryd.func11 (by kernel_rfl) rfl #[.slice A0 l0.length c0] rfl (by (try simp only [List.map_toArray, List.map_cons, List.map_nil]); first | done | rfl | (simp only [List.length_drop, List.length_take]; rfl)) ?_; (with_reducible refine (tsz_Encode.calls _ _ l0 t299 t300 _ ?side1 ?side2 A2.out ?sideL).mono ?_); (case sideL => exact Ld.LaidW.below HL.out (by repeat (first | (with_reducible first | exact HB.out | apply below_alloc | apply pw_below_drewN | apply below_drew1) | exact HB.out))); (case side1 => repeat (first | exact HR0.out | (with_reducible refine Kd.C_alloc ?_ _) | (with_reducible refine Kd.C_drewN ?_ _) | (with_reducible refine Kd.C_drew ?_))); (case side2 => exact HC0.out); rintro e w8 ⟨v301, rfl, ho0, hb⟩; refine ⟨_, rfl, ?_⟩; have n0_ := Aside0.mk (Kd.R_lower ho0 (below_size (by repeat (first | (with_reducible first | exact HB.out | apply below_alloc | apply pw_below_drewN | apply below_drew1) | exact HB.out)))); have n1_ := Aside0.mk (below_step (by repeat (first | (with_reducible first | exact HB.out | apply below_alloc | apply pw_below_drewN | apply below_drew1) | exact HB.out)) hb); clear HB; have HO302 := n0_; have HB := n1_; clear n0_ n1_; (try clear hb); (try clear hb2); (try clear hk); (try clear hi); (try clear ho0)))
    go_ret2
    exact ⟨by first | rfl | (simp [errW_none, errW_some] <;> rfl) | (simp [*, errW_none, errW_some] <;> rfl), by repeat (first | (with_reducible first | exact HB.out | apply below_alloc | apply pw_below_drewN | apply below_drew1) | exact HB.out)⟩

end Go.Proofs.YtmnlbedgkjnodaaDoor.QB
