/- What functions of the translation come to, each as a Lean function, and a proof that the call comes to just that; or a law's row, out of its plain law. Written by mp.py, a program of this session, which runs the printer of the kit with stand-in bodies for some library functions.
   Plain lemmas: the document's check is the program's; how long a list's bytes are. The law TszMost.
   What a decoder of points reads, in plain words; and that it reads what was encoded. No program in sight. -/
import Derived.Test.YtmnlbedgkjnodaaDoorZTszOne7
import Derived.Test.YtmnlbedgkjnodaaDoorZTszOne8
import Derived.Test.YtmnlbedgkjnodaaDoorZTszOne0
import Derived.Test.YtmnlbedgkjnodaaDoorZTszOne1
import Derived.Test.YtmnlbedgkjnodaaDoorZTszOne9
import Derived.Test.YtmnlbedgkjnodaaDoorZTszOne5
set_option linter.unusedSimpArgs false
set_option linter.unusedVariables false
namespace Go.Proofs.YtmnlbedgkjnodaaDoor.QB
open Go.RowKit Go.Proofs.YtmnlbedgkjnodaaDoorW.PrintWords Go.Proofs.YtmnlbedgkjnodaaDoorW.PrintLast Go.Proofs.YtmnlbedgkjnodaaDoorW.PrintMore
attribute [local go_sem] max2_int min2_int max_two min_two max_three min_three max_four min_four   -- for this text's walks alone
end Go.Proofs.YtmnlbedgkjnodaaDoor.QB
namespace Go.Proofs.YtmnlbedgkjnodaaDoor.TeR
open Go.RowKit Go.Proofs.YtmnlbedgkjnodaaDoorW.PrintWords Go.Proofs.YtmnlbedgkjnodaaDoorW.PrintLast Go.Proofs.YtmnlbedgkjnodaaDoorW.PrintMore Go.Proofs.YtmnlbedgkjnodaaDoor.QB Go.Proofs.YtmnlbedgkjnodaaDoor.Bt Go.Proofs.YtmnlbedgkjnodaaDoor.Uv Go.Proofs.YtmnlbedgkjnodaaDoor.TzP Go.Proofs.YtmnlbedgkjnodaaDoor.TeP Go.Proofs.YtmnlbedgkjnodaaDoor.TeW
def prevT (l : List Pt) (i : Nat) : Int := if i = 0 then -1 else (l.getD (i - 1) zp).f0
theorem ref_check_l0 (l : List Pt) (hl : l.length ≤ 1000000) : ∀ (d i k : Nat), i + d = l.length → 2 * d < k → thermographref05_Check.l0 k l (i : Int) = some (chk (prevT l i) (l.drop i)) := by
  intro d
  induction d with
  | zero =>
    intro i k hi hk
    obtain ⟨k, rfl⟩ : ∃ m, k = m + 1 := ⟨k - 1, by omega⟩
    simp only [thermographref05_Check.l0]
    rw [if_neg (by omega), List.drop_eq_nil_of_le (by omega)]
    rfl
  | succ d ih =>
    intro i k hi hk
    obtain ⟨k, rfl⟩ : ∃ m, k = m + 2 := ⟨k - 2, by omega⟩
    have hlt : i < l.length := by omega
    simp only [thermographref05_Check.l0]
    rw [if_pos (by omega), if_pos (by omega), rdT, getD_at hlt, List.drop_eq_getElem_cons hlt]
    unfold chk
    have hw : wrap64 ((i : Int) + 1) = ((i + 1 : Nat) : Int) := by unfold wrap64; omega
    have hn : prevT l (i + 1) = l[i].f0 := by
      unfold prevT
      rw [if_neg (by omega), Nat.add_sub_cancel, getD_at hlt]
    by_cases h1 : l[i].f0 < 0
    · rw [if_pos h1, if_pos (.inl h1)]
      simp only [thermographref05_Check.j1]
      rfl
    · rw [if_neg h1]
      by_cases h2 : 1099511627776 < l[i].f0
      · rw [if_pos (.inr h2)]
        simp only [thermographref05_Check.j1]
        rw [if_pos (decide_eq_true h2)]
      · rw [if_neg (by omega)]
        simp only [thermographref05_Check.j1]
        rw [if_neg (by simpa using h2)]
        have hih := ih (i + 1) k (by omega) (by omega)
        rw [hn] at hih
        rcases Nat.eq_zero_or_pos i with h0 | h0
        · subst h0
          rw [if_neg (by omega), hw, hih, if_neg (by unfold prevT; rw [if_pos rfl]; omega)]
        · have hm : wrap64 ((i : Int) - 1) = ((i - 1 : Nat) : Int) := by unfold wrap64; omega
          have hp : prevT l i = (l.getD (i - 1) zp).f0 := by unfold prevT; rw [if_neg (by omega)]
          rw [if_pos (by omega), if_pos (by omega), if_pos (by omega), hm, if_pos (by omega), if_pos (by omega), rdT, rdT, getD_at hlt, hp]
          by_cases h3 : l[i].f0 ≤ (l.getD (i - 1) zp).f0
          · rw [if_pos h3, if_pos h3]
          · rw [if_neg h3, if_neg h3, hw]
            exact hih
theorem ref_check_f {l : List Pt} (hl : l.length ≤ 1000000) {k : Nat} (hk : 2 * l.length < k) : thermographref05_Check.f k l = some (checkF l) := by
  unfold thermographref05_Check.f checkF
  by_cases h : 512 < l.length
  · rw [if_pos (by omega), if_pos h]
  · rw [if_neg (by omega), if_neg h]
    exact ref_check_l0 l hl l.length 0 k (by omega) hk
theorem encT_snd (l : List Pt) : (encT l).2 = checkF l := by
  unfold encT
  by_cases h : checkF l = 0
  · rw [if_pos h, h]
  · rw [if_neg h]
theorem encT_ok {l : List Pt} (h : checkF l = 0) : encT l = (encB l, 0) := by unfold encT; rw [if_pos h]
theorem encT_bad {l : List Pt} (h : checkF l ≠ 0) : encT l = ([], checkF l) := by unfold encT; rw [if_neg h]
theorem goB_len (l : List Pt) : ∀ j, 192 + 3 * j ≤ (goB l (j + 1)).1.length ∧ (goB l (j + 1)).1.length ≤ 192 + 222 * j
  | 0 => by rw [goB_one]; simp [first_length]
  | j + 1 => by
    have h1 := goB_len l j
    have h2 := step_length (l.getD j zp) (l.getD (j + 1) zp) (goB l (j + 1)).2
    rw [goB_succ]
    simp only [List.length_append]
    omega
theorem bitsT_len {l : List Pt} (h : 0 < l.length) : 192 + 3 * (l.length - 1) ≤ (bitsT l).length ∧ (bitsT l).length ≤ 192 + 222 * (l.length - 1) := by
  have := goB_len l (l.length - 1)
  unfold bitsT
  rwa [show l.length - 1 + 1 = l.length from by omega] at this
theorem encB_len (l : List Pt) (hn : l.length ≤ 512) : 1 ≤ (encB l).length ∧ (encB l).length ≤ 26 + 28 * (l.length - 1) := by
  have h1 := uv_length_le l.length 2 (by omega) (by omega)
  have h2 := uv_pos l.length
  unfold encB
  rw [List.length_append, pk_length]
  rcases Nat.eq_zero_or_pos l.length with h | h
  · have e : l = [] := List.eq_nil_of_length_eq_zero h
    subst e
    have h3 : (uv 0).length ≤ 2 := uv_length_le 0 2 (by omega) (by omega)
    have h4 := uv_pos 0
    show 1 ≤ (uv 0).length + (0 + 7) / 8 ∧ (uv 0).length + (0 + 7) / 8 ≤ 26 + 28 * (0 - 1)
    omega
  · have := bitsT_len h
    omega
end Go.Proofs.YtmnlbedgkjnodaaDoor.TeR
namespace Go.Proofs.YtmnlbedgkjnodaaDoor.TdP
open Go.RowKit Go.Proofs.YtmnlbedgkjnodaaDoorW.PrintWords Go.Proofs.YtmnlbedgkjnodaaDoorW.PrintLast Go.Proofs.YtmnlbedgkjnodaaDoorW.PrintMore Go.Proofs.YtmnlbedgkjnodaaDoor.QB Go.Proofs.YtmnlbedgkjnodaaDoor.Bt Go.Proofs.YtmnlbedgkjnodaaDoor.Uv Go.Proofs.YtmnlbedgkjnodaaDoor.RdW Go.Proofs.YtmnlbedgkjnodaaDoor.TzP Go.Proofs.YtmnlbedgkjnodaaDoor.TeP Go.Proofs.YtmnlbedgkjnodaaDoor.TeW Go.Proofs.YtmnlbedgkjnodaaDoor.TeR
def gb (b : List Int) (p n : Nat) : Option (Nat × Nat) := if n ≤ 8 * b.length - p then some (getN b p n, p + n) else none
def formsP : List (Nat × Nat) := [(7, 63), (9, 255), (12, 2047)]
def timeGo (b : List Int) : List (Nat × Nat) → Nat → Option (Int × Nat)
  | [], p => (gb b p 64).map fun r => (wrap64 (r.1 : Int), r.2)
  | f :: t, p => (gb b p 1).bind fun r => if r.1 = 0 then (gb b r.2 f.1).map fun u => ((u.1 : Int) - f.2, u.2) else timeGo b t r.2
def timeP (b : List Int) (p : Nat) : Option (Int × Nat) := (gb b p 1).bind fun r => if r.1 = 0 then some (0, r.2) else timeGo b formsP r.2
def finP (b : List Int) (p a t : Nat) : Option ((Nat × Win) × Nat) := (gb b p (64 - a - t)).map fun r => ((r.1 * 2 ^ t % 18446744073709551616, some (a, t)), r.2)
def wideP (b : List Int) (p : Nat) : Option ((Nat × Win) × Nat) := (gb b p 5).bind fun a => (gb b a.2 6).bind fun n => if 63 < a.1 + n.1 then none else finP b n.2 a.1 (63 - a.1 - n.1)
def heldP (b : List Int) (p : Nat) : Win → Option ((Nat × Win) × Nat)
  | none => none
  | some w => finP b p w.1 w.2
def valueP (b : List Int) (p : Nat) (x : Win) : Option ((Nat × Win) × Nat) :=
  (gb b p 1).bind fun r => if r.1 = 0 then some ((0, x), r.2) else (gb b r.2 1).bind fun u => if u.1 = 1 then wideP b u.2 else heldP b u.2 x
def headP (b : List Int) (p : Nat) : Option (Pt × Nat) := (gb b p 64).bind fun t => (gb b t.2 64).bind fun v => (gb b v.2 64).map fun s => (⟨wrap64 (t.1 : Int), (v.1 : Int), (s.1 : Int)⟩, s.2)
def nextP (b : List Int) (p : Nat) (q : Pt) (d : Int) (v s : Win) : Option ((Pt × St) × Nat) :=
  (timeP b p).bind fun x => (valueP b x.2 v).bind fun y => (valueP b y.2 s).map fun z =>
    ((⟨wrap64 (q.f0 + wrap64 (d + x.1)), ((q.f1.toNat ^^^ y.1.1 : Nat) : Int), ((q.f2.toNat ^^^ z.1.1 : Nat) : Int)⟩, (wrap64 (d + x.1), y.1.2, z.1.2)), z.2)
def goP (b : List Int) : Nat → List Pt → St → Nat → Option (List Pt)
  | 0, l, _, _ => some l
  | m + 1, l, st, p => if l.length = 0 then (headP b p).bind fun r => goP b m (l ++ [r.1]) st r.2
      else (nextP b p (l.getD (l.length - 1) zp) st.1 st.2.1 st.2.2).bind fun r => goP b m (l ++ [r.1.1]) r.1.2 r.2
def pointsP (b : List Int) (n : Nat) : Option (List Pt) := goP b n [] st0 0
def At (b : List Int) (p : Nat) (xs : List Int) : Prop := ∃ r, (unpk b).drop p = xs ++ r
theorem gb_at {b : List Int} {p v n : Nat} {xs : List Int} (h : At b p (bitsOf v n ++ xs)) : gb b p n = some (v % 2 ^ n, p + n) ∧ At b (p + n) xs := by
  obtain ⟨r, h⟩ := h
  have hl : ((unpk b).drop p).length = n + (xs ++ r).length := by rw [h, List.append_assoc, List.length_append, bitsOf_length]
  rw [List.length_drop, unpk_length] at hl
  refine ⟨?_, r, ?_⟩
  · unfold gb
    rw [if_pos (by omega)]
    unfold getN
    rw [h, List.append_assoc, List.take_left' (bitsOf_length v n), num_bitsOf]
  · rw [← List.drop_drop, h, List.append_assoc, List.drop_left' (bitsOf_length v n)]
theorem time_at {b : List Int} {p : Nat} {x : Int} {xs : List Int} (hx0 : -9223372036854775808 ≤ x) (hx1 : x < 9223372036854775808) (h : At b p (timeB x ++ xs)) : timeP b p = some (x, p + (timeB x).length) ∧ At b (p + (timeB x).length) xs := by
  unfold timeP
  by_cases h0 : x = 0
  · have e : timeB x = bitsOf 0 1 := by unfold timeB; rw [if_pos h0]
    rw [e] at h ⊢
    obtain ⟨h1, h2⟩ := gb_at h
    rw [h1, bitsOf_length]
    exact ⟨by simp [h0], h2⟩
  have two : ∀ (hd n lo z : Nat) (ys : List Int), At b p ((bitsOf hd n ++ bitsOf (x + (lo : Int)).toNat z) ++ ys) → At b p (bitsOf hd n ++ (bitsOf (x + (lo : Int)).toNat z ++ ys)) := fun _ _ _ _ _ h => by rwa [List.append_assoc] at h
  by_cases h1 : -63 ≤ x ∧ x ≤ 64
  · have e : timeB x = bitsOf 1 1 ++ (bitsOf 0 1 ++ bitsOf (x + 63).toNat 7) := by unfold timeB; rw [if_neg h0, if_pos h1]; rfl
    rw [e, List.append_assoc, List.append_assoc] at h
    obtain ⟨g1, h⟩ := gb_at h
    obtain ⟨g2, h⟩ := gb_at h
    obtain ⟨g3, h⟩ := gb_at h
    rw [g1, e]
    simp only [Option.bind_some, formsP, timeGo]
    rw [if_neg (by decide), g2]
    simp only [Option.bind_some]
    rw [if_pos (by decide), g3]
    simp only [Option.map_some, List.length_append, bitsOf_length]
    refine ⟨?_, ?_⟩
    · simp only [Option.some.injEq, Prod.mk.injEq]
      refine ⟨?_, by first | trivial | omega⟩
      omega
    · rw [← Nat.add_assoc, ← Nat.add_assoc]
      exact h
  by_cases h2 : -255 ≤ x ∧ x ≤ 256
  · have e : timeB x = bitsOf 1 1 ++ (bitsOf 1 1 ++ (bitsOf 0 1 ++ bitsOf (x + 255).toNat 9)) := by unfold timeB; rw [if_neg h0, if_neg h1, if_pos h2]; rfl
    rw [e, List.append_assoc, List.append_assoc, List.append_assoc] at h
    obtain ⟨g1, h⟩ := gb_at h
    obtain ⟨g2, h⟩ := gb_at h
    obtain ⟨g3, h⟩ := gb_at h
    obtain ⟨g4, h⟩ := gb_at h
    rw [g1, e]
    simp only [Option.bind_some, formsP, timeGo]
    rw [if_neg (by decide), g2]
    simp only [Option.bind_some]
    rw [if_neg (by decide), g3]
    simp only [Option.bind_some]
    rw [if_pos (by decide), g4]
    simp only [Option.map_some, List.length_append, bitsOf_length]
    refine ⟨?_, ?_⟩
    · simp only [Option.some.injEq, Prod.mk.injEq]
      refine ⟨?_, by first | trivial | omega⟩
      omega
    · rw [← Nat.add_assoc, ← Nat.add_assoc, ← Nat.add_assoc]
      exact h
  by_cases h3 : -2047 ≤ x ∧ x ≤ 2048
  · have e : timeB x = bitsOf 1 1 ++ (bitsOf 1 1 ++ (bitsOf 1 1 ++ (bitsOf 0 1 ++ bitsOf (x + 2047).toNat 12))) := by unfold timeB; rw [if_neg h0, if_neg h1, if_neg h2, if_pos h3]; rfl
    rw [e, List.append_assoc, List.append_assoc, List.append_assoc, List.append_assoc] at h
    obtain ⟨g1, h⟩ := gb_at h
    obtain ⟨g2, h⟩ := gb_at h
    obtain ⟨g3, h⟩ := gb_at h
    obtain ⟨g4, h⟩ := gb_at h
    obtain ⟨g5, h⟩ := gb_at h
    rw [g1, e]
    simp only [Option.bind_some, formsP, timeGo]
    rw [if_neg (by decide), g2]
    simp only [Option.bind_some]
    rw [if_neg (by decide), g3]
    simp only [Option.bind_some]
    rw [if_neg (by decide), g4]
    simp only [Option.bind_some]
    rw [if_pos (by decide), g5]
    simp only [Option.map_some, List.length_append, bitsOf_length]
    refine ⟨?_, ?_⟩
    · simp only [Option.some.injEq, Prod.mk.injEq]
      refine ⟨?_, by first | trivial | omega⟩
      omega
    · rw [← Nat.add_assoc, ← Nat.add_assoc, ← Nat.add_assoc, ← Nat.add_assoc]
      exact h
  · have e : timeB x = bitsOf 1 1 ++ (bitsOf 1 1 ++ (bitsOf 1 1 ++ (bitsOf 1 1 ++ bitsOf (x % 18446744073709551616).toNat 64))) := by unfold timeB; rw [if_neg h0, if_neg h1, if_neg h2, if_neg h3]; rfl
    rw [e, List.append_assoc, List.append_assoc, List.append_assoc, List.append_assoc] at h
    obtain ⟨g1, h⟩ := gb_at h
    obtain ⟨g2, h⟩ := gb_at h
    obtain ⟨g3, h⟩ := gb_at h
    obtain ⟨g4, h⟩ := gb_at h
    obtain ⟨g5, h⟩ := gb_at h
    rw [g1, e]
    simp only [Option.bind_some, formsP, timeGo]
    rw [if_neg (by decide), g2]
    simp only [Option.bind_some]
    rw [if_neg (by decide), g3]
    simp only [Option.bind_some]
    rw [if_neg (by decide), g4]
    simp only [Option.bind_some]
    rw [if_neg (by decide), g5]
    simp only [Option.map_some, List.length_append, bitsOf_length]
    refine ⟨?_, ?_⟩
    · simp only [Option.some.injEq, Prod.mk.injEq]
      refine ⟨?_, by first | trivial | omega⟩
      unfold wrap64
      omega
    · rw [← Nat.add_assoc, ← Nat.add_assoc, ← Nat.add_assoc, ← Nat.add_assoc]
      exact h
theorem low_value {y a t : Nat} (h1 : y < 2 ^ (64 - a)) (h2 : y % 2 ^ t = 0) (hab : a + t ≤ 63) (hy : y < 18446744073709551616) : y / 2 ^ t % 2 ^ (64 - a - t) * 2 ^ t % 18446744073709551616 = y := by
  have h3 : y / 2 ^ t < 2 ^ (64 - a - t) := by
    rw [Nat.div_lt_iff_lt_mul (Nat.pow_pos (by omega)), ← Nat.pow_add, show 64 - a - t + t = 64 - a from by omega]
    exact h1
  rw [Nat.mod_eq_of_lt h3, Nat.div_mul_cancel (Nat.dvd_of_mod_eq_zero h2), Nat.mod_eq_of_lt hy]
theorem mod_pow_le {y t s : Nat} (h : t ≤ s) (hs : y % 2 ^ s = 0) : y % 2 ^ t = 0 :=
  Nat.mod_eq_zero_of_dvd (Nat.dvd_trans (Nat.pow_dvd_pow 2 h) (Nat.dvd_of_mod_eq_zero hs))
theorem value_at {b : List Int} {p y : Nat} {w : Win} {xs : List Int} (hy : y < 18446744073709551616) (hw : w.Ok) (h : At b p ((valueB y w).1 ++ xs)) :
    valueP b p w = some ((y, (valueB y w).2), p + (valueB y w).1.length) ∧ At b (p + (valueB y w).1.length) xs := by
  unfold valueP
  by_cases h0 : y = 0
  · have e : valueB y w = (bitsOf 0 1, w) := by unfold valueB; rw [if_pos h0]
    rw [e] at h ⊢
    obtain ⟨g1, h⟩ := gb_at h
    rw [g1]
    simp only [Option.bind_some, bitsOf_length]
    exact ⟨by rw [if_pos (by decide), h0], h⟩
  by_cases hf : fits y w = true
  · cases w with
    | none => cases hf
    | some q =>
      obtain ⟨a, t⟩ := q
      have hab := (hw _ rfl).2
      simp only [fits, Bool.and_eq_true, decide_eq_true_eq] at hf
      have e : valueB y (some (a, t)) = (bitsOf 1 1 ++ (bitsOf 0 1 ++ bitsOf (y / 2 ^ t) (64 - a - t)), some (a, t)) := by
        unfold valueB
        rw [if_neg h0, if_pos (by simp [fits, hf])]
        rfl
      rw [e] at h ⊢
      simp only [List.append_assoc] at h
      obtain ⟨g1, h⟩ := gb_at h
      obtain ⟨g2, h⟩ := gb_at h
      obtain ⟨g3, h⟩ := gb_at h
      rw [g1]
      simp only [Option.bind_some]
      rw [if_neg (by decide), g2]
      simp only [Option.bind_some]
      rw [if_neg (by decide)]
      simp only [heldP, finP]
      rw [g3]
      have hlow := low_value (y := y) (a := a) (t := t) (Nat.lt_of_lt_of_le (lz_lt hy) (Nat.pow_le_pow_right (by omega) (by omega))) (mod_pow_le hf.2 (tz_mod h0 hy)) hab hy
      simp only [Option.map_some, List.length_append, bitsOf_length, hlow]
      refine ⟨by simp only [Nat.add_assoc], ?_⟩
      rw [← Nat.add_assoc, ← Nat.add_assoc]
      exact h
  · have hlt := lz_tz h0 hy
    have hlz := lz_le y
    have e : valueB y w = (bitsOf 1 1 ++ (bitsOf 1 1 ++ (bitsOf (lz y) 5 ++ (bitsOf (63 - lz y - tz y) 6 ++ bitsOf (y / 2 ^ tz y) (64 - lz y - tz y)))), some (lz y, tz y)) := by
      unfold valueB
      rw [if_neg h0, if_neg hf]
      simp only [List.append_assoc]
      rfl
    rw [e] at h ⊢
    simp only [List.append_assoc] at h
    obtain ⟨g1, h⟩ := gb_at h
    obtain ⟨g2, h⟩ := gb_at h
    obtain ⟨g3, h⟩ := gb_at h
    obtain ⟨g4, h⟩ := gb_at h
    obtain ⟨g5, h⟩ := gb_at h
    rw [g1]
    simp only [Option.bind_some]
    rw [if_neg (by decide), g2]
    simp only [Option.bind_some]
    rw [if_pos (by decide)]
    simp only [wideP]
    rw [g3]
    simp only [Option.bind_some]
    rw [g4]
    simp only [Option.bind_some]
    have e1 : lz y % 2 ^ 5 = lz y := Nat.mod_eq_of_lt (by omega)
    have e2 : (63 - lz y - tz y) % 2 ^ 6 = 63 - lz y - tz y := Nat.mod_eq_of_lt (by omega)
    rw [e1, e2, if_neg (by omega), show 63 - lz y - (63 - lz y - tz y) = tz y from by omega]
    simp only [finP]
    rw [g5]
    have hlow := low_value (y := y) (a := lz y) (t := tz y) (lz_lt hy) (tz_mod h0 hy) hlt hy
    simp only [Option.map_some, List.length_append, bitsOf_length, hlow]
    refine ⟨by simp only [Nat.add_assoc], ?_⟩
    simp only [← Nat.add_assoc]
    exact h
theorem xor_back (a b : Nat) : a ^^^ (b ^^^ a) = b := by rw [Nat.xor_comm b a, ← Nat.xor_assoc, Nat.xor_self, Nat.zero_xor]
def Fine (q : Pt) : Prop := (0 ≤ q.f0 ∧ q.f0 ≤ 1099511627776) ∧ (0 ≤ q.f1 ∧ q.f1 < 18446744073709551616) ∧ (0 ≤ q.f2 ∧ q.f2 < 18446744073709551616)
theorem head_at {b : List Int} {p : Nat} {q : Pt} {xs : List Int} (hq : Fine q) (h : At b p (first q ++ xs)) : headP b p = some (q, p + (first q).length) ∧ At b (p + (first q).length) xs := by
  obtain ⟨⟨t0, t1⟩, ⟨v0, v1⟩, s0, s1⟩ := hq
  rw [first_length]
  unfold first at h
  simp only [List.append_assoc] at h
  obtain ⟨g1, h⟩ := gb_at h
  obtain ⟨g2, h⟩ := gb_at h
  obtain ⟨g3, h⟩ := gb_at h
  unfold headP
  rw [g1]
  simp only [Option.bind_some]
  rw [g2]
  simp only [Option.bind_some]
  rw [g3]
  refine ⟨?_, by rw [show p + 192 = p + 64 + 64 + 64 from by omega]; exact h⟩
  obtain ⟨T, V, S⟩ := q
  simp only at t0 t1 v0 v1 s0 s1
  have e1 : wrap64 ((T.toNat % 2 ^ 64 : Nat) : Int) = T := by unfold wrap64; omega
  have e2 : ((V.toNat % 2 ^ 64 : Nat) : Int) = V := by omega
  have e3 : ((S.toNat % 2 ^ 64 : Nat) : Int) = S := by omega
  simp only [Option.map_some, e1, e2, e3, Nat.add_assoc]
theorem next_at {b : List Int} {p : Nat} {q r : Pt} {d : Int} {v s : Win} {xs : List Int} (hq : Fine q) (hr : Fine r) (hd : -1099511627776 ≤ d ∧ d ≤ 1099511627776) (hv : v.Ok) (hs : s.Ok) (h : At b p ((TeP.step q r (d, v, s)).1 ++ xs)) :
    nextP b p q d v s = some ((r, (TeP.step q r (d, v, s)).2), p + (TeP.step q r (d, v, s)).1.length) ∧ At b (p + (TeP.step q r (d, v, s)).1.length) xs := by
  have hyv : r.f1.toNat ^^^ q.f1.toNat < 18446744073709551616 := xor_lt hr.2.1 hq.2.1
  have hys : r.f2.toNat ^^^ q.f2.toNat < 18446744073709551616 := xor_lt hr.2.2 hq.2.2
  unfold TeP.step at h ⊢
  simp only [List.append_assoc] at h
  obtain ⟨g1, h⟩ := time_at (by have := hq.1; have := hr.1; omega) (by have := hq.1; have := hr.1; omega) h
  obtain ⟨g2, h⟩ := value_at hyv hv h
  obtain ⟨g3, h⟩ := value_at hys hs h
  unfold nextP
  rw [g1]
  simp only [Option.bind_some]
  rw [g2]
  simp only [Option.bind_some]
  rw [g3]
  have hq1 := hq.1
  have hr1 := hr.1
  have e0 : d + (r.f0 - q.f0 - d) = r.f0 - q.f0 := by omega
  have e1 : wrap64 (r.f0 - q.f0) = r.f0 - q.f0 := by unfold wrap64; omega
  have e2 : q.f0 + (r.f0 - q.f0) = r.f0 := by omega
  have e3 : wrap64 r.f0 = r.f0 := by unfold wrap64; omega
  have e4 : ((q.f1.toNat ^^^ (r.f1.toNat ^^^ q.f1.toNat) : Nat) : Int) = r.f1 := by rw [xor_back]; have := hr.2.1; omega
  have e5 : ((q.f2.toNat ^^^ (r.f2.toNat ^^^ q.f2.toNat) : Nat) : Int) = r.f2 := by rw [xor_back]; have := hr.2.2; omega
  simp only [Option.map_some, e0, e1, e2, e3, e4, e5, List.length_append, ← Nat.add_assoc]
  exact ⟨trivial, h⟩
def pieceB (l : List Pt) (i : Nat) : List Int := if i = 0 then first (l.getD 0 zp) else (TeP.step (l.getD (i - 1) zp) (l.getD i zp) (goB l i).2).1
def restB (l : List Pt) : Nat → Nat → List Int
  | _, 0 => []
  | i, m + 1 => pieceB l i ++ restB l (i + 1) m
theorem goB_piece (l : List Pt) (i : Nat) : (goB l (i + 1)).1 = (goB l i).1 ++ pieceB l i := by
  unfold pieceB
  cases i with
  | zero => rw [goB_one]; rfl
  | succ j => rw [goB_succ, if_neg (by omega)]; rfl
theorem goB_rest (l : List Pt) : ∀ m i, (goB l (i + m)).1 = (goB l i).1 ++ restB l i m
  | 0, i => by simp [restB]
  | m + 1, i => by
    have := goB_rest l m (i + 1)
    rw [show i + (m + 1) = i + 1 + m from by omega, this, goB_piece, List.append_assoc]
    rfl
theorem bitsT_rest (l : List Pt) : bitsT l = restB l 0 l.length := by
  have := goB_rest l l.length 0
  rw [Nat.zero_add] at this
  unfold bitsT
  rw [this]
  rfl
theorem fine_getD {l : List Pt} (hk : checkF l = 0) (hok : OkL l) {i : Nat} (hi : i < l.length) : Fine (l.getD i zp) := by
  obtain ⟨_, hT, _⟩ := checkF_zero hk
  obtain ⟨t, v, s, hp, ht, hv, hs⟩ := pt_facts hT hok hi
  rw [hp]
  exact ⟨⟨by simp only; omega, by simp only; omega⟩, ⟨by simp only; omega, by simp only; omega⟩, ⟨by simp only; omega, by simp only; omega⟩⟩
theorem take_snoc {l : List Pt} {i : Nat} (hi : i < l.length) : l.take i ++ [l.getD i zp] = l.take (i + 1) := by
  rw [List.take_succ_eq_append_getElem hi, getD_at hi]
theorem go_at {l : List Pt} (hk : checkF l = 0) (hok : OkL l) (b : List Int) : ∀ (m i p : Nat), i + m = l.length → At b p (restB l i m) → goP b m (l.take i) (goB l i).2 p = some l := by
  intro m
  induction m with
  | zero =>
    intro i p hi h
    simp only [goP]
    rw [List.take_of_length_le (by omega)]
  | succ m ih =>
    intro i p hi h
    have hlt : i < l.length := by omega
    have hlen : (l.take i).length = i := by rw [List.length_take]; omega
    simp only [goP, hlen]
    rcases Nat.eq_zero_or_pos i with h0 | h0
    · subst h0
      have hp : restB l 0 (m + 1) = first (l.getD 0 zp) ++ restB l 1 m := rfl
      rw [hp] at h
      obtain ⟨g1, h⟩ := head_at (fine_getD hk hok hlt) h
      rw [if_pos rfl, g1]
      simp only [Option.bind_some]
      rw [take_snoc hlt]
      have := ih 1 _ (by omega) h
      rw [goB_one] at this
      exact this
    · obtain ⟨j, rfl⟩ : ∃ j, i = j + 1 := ⟨i - 1, by omega⟩
      have hp : restB l (j + 1) (m + 1) = (TeP.step (l.getD j zp) (l.getD (j + 1) zp) (goB l (j + 1)).2).1 ++ restB l (j + 2) m := by
        show pieceB l (j + 1) ++ _ = _
        unfold pieceB
        rw [if_neg (by omega)]
        rfl
      rw [hp] at h
      have hw := goB_ok hok (j + 1)
      have hd := goB_dist hk (j + 1) (by omega)
      obtain ⟨g1, h⟩ := next_at (fine_getD hk hok (by omega)) (fine_getD hk hok hlt) hd hw.1 hw.2 h
      have hgj : (l.take (j + 1)).getD (j + 1 - 1) zp = l.getD j zp := by
        rw [List.getD_eq_getElem?_getD, List.getD_eq_getElem?_getD, List.getElem?_take, if_pos (by omega)]
        rfl
      rw [if_neg (by omega), hgj, g1]
      simp only [Option.bind_some]
      rw [take_snoc hlt]
      have := ih (j + 2) _ (by omega) h
      rw [goB_succ] at this
      exact this
theorem points_at {l : List Pt} (hk : checkF l = 0) (hok : OkL l) {b : List Int} (h : At b 0 (bitsT l)) : pointsP b l.length = some l := by
  rw [bitsT_rest] at h
  exact go_at hk hok b l.length 0 0 (by omega) h
end Go.Proofs.YtmnlbedgkjnodaaDoor.TdP
