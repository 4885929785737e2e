/- What a decoder of points reads, in plain words; and that it reads what was encoded. No program in sight.
   More words for a walk's memory (see Sl): rows with room, appends in a region that draws, a call that panics in one. -/
import Derived.Test.YtmnlbedgkjnodaaDoorZTszBack12
import Derived.Test.YtmnlbedgkjnodaaDoorZTszBack1
namespace Go.Proofs.YtmnlbedgkjnodaaDoor.TdP
open Go.RowKit Go.Proofs.YtmnlbedgkjnodaaDoorW.PrintWords Go.Proofs.YtmnlbedgkjnodaaDoorW.PrintLast Go.Proofs.YtmnlbedgkjnodaaDoorW.PrintMore Go.Proofs.YtmnlbedgkjnodaaDoor.QB Go.Proofs.YtmnlbedgkjnodaaDoor.Bt Go.Proofs.YtmnlbedgkjnodaaDoor.Uv Go.Proofs.YtmnlbedgkjnodaaDoor.RdW Go.Proofs.YtmnlbedgkjnodaaDoor.TzP Go.Proofs.YtmnlbedgkjnodaaDoor.TeP Go.Proofs.YtmnlbedgkjnodaaDoor.TeW Go.Proofs.YtmnlbedgkjnodaaDoor.TeR
set_option linter.unusedVariables false
set_option linter.unusedSimpArgs false

/-- n bits from p on, and where they end; none: there are too few. -/
def gb (b : List Int) (p n : Nat) : Option (Nat × Nat) := if n ≤ 8 * b.length - p then some (getN b p n, p + n) else none
def formsP : List (Nat × Nat) := [(7, 63), (9, 255), (12, 2047)]
def timeGo (b : List Int) : List (Nat × Nat) → Nat → Option (Int × Nat)
  | [], p => (gb b p 64).map fun r => (wrap64 (r.1 : Int), r.2)
  | f :: t, p => (gb b p 1).bind fun r => if r.1 = 0 then (gb b r.2 f.1).map fun u => ((u.1 : Int) - f.2, u.2) else timeGo b t r.2
def timeP (b : List Int) (p : Nat) : Option (Int × Nat) := (gb b p 1).bind fun r => if r.1 = 0 then some (0, r.2) else timeGo b formsP r.2
def finP (b : List Int) (p a t : Nat) : Option ((Nat × Win) × Nat) := (gb b p (64 - a - t)).map fun r => ((r.1 * 2 ^ t % 18446744073709551616, some (a, t)), r.2)
def wideP (b : List Int) (p : Nat) : Option ((Nat × Win) × Nat) := (gb b p 5).bind fun a => (gb b a.2 6).bind fun n => if 63 < a.1 + n.1 then none else finP b n.2 a.1 (63 - a.1 - n.1)
def heldP (b : List Int) (p : Nat) : Win → Option ((Nat × Win) × Nat)
  | none => none
  | some w => finP b p w.1 w.2
def valueP (b : List Int) (p : Nat) (x : Win) : Option ((Nat × Win) × Nat) :=
  (gb b p 1).bind fun r => if r.1 = 0 then some ((0, x), r.2) else (gb b r.2 1).bind fun u => if u.1 = 1 then wideP b u.2 else heldP b u.2 x
/-- A first point. -/
def headP (b : List Int) (p : Nat) : Option (Pt × Nat) := (gb b p 64).bind fun t => (gb b t.2 64).bind fun v => (gb b v.2 64).map fun s => (⟨wrap64 (t.1 : Int), (v.1 : Int), (s.1 : Int)⟩, s.2)
/-- A further point. -/
def nextP (b : List Int) (p : Nat) (q : Pt) (d : Int) (v s : Win) : Option ((Pt × St) × Nat) :=
  (timeP b p).bind fun x => (valueP b x.2 v).bind fun y => (valueP b y.2 s).map fun z =>
    ((⟨wrap64 (q.f0 + wrap64 (d + x.1)), ((q.f1.toNat ^^^ y.1.1 : Nat) : Int), ((q.f2.toNat ^^^ z.1.1 : Nat) : Int)⟩, (wrap64 (d + x.1), y.1.2, z.1.2)), z.2)
/-- So many points more. -/
def goP (b : List Int) : Nat → List Pt → St → Nat → Option (List Pt)
  | 0, l, _, _ => some l
  | m + 1, l, st, p => if l.length = 0 then (headP b p).bind fun r => goP b m (l ++ [r.1]) st r.2
      else (nextP b p (l.getD (l.length - 1) zp) st.1 st.2.1 st.2.2).bind fun r => goP b m (l ++ [r.1.1]) r.1.2 r.2
def pointsP (b : List Int) (n : Nat) : Option (List Pt) := goP b n [] st0 0

/-- Behind the bit p stand these. -/
def At (b : List Int) (p : Nat) (xs : List Int) : Prop := ∃ r, (unpk b).drop p = xs ++ r
theorem gb_at {b : List Int} {p v n : Nat} {xs : List Int} (h : At b p (bitsOf v n ++ xs)) : gb b p n = some (v % 2 ^ n, p + n) ∧ At b (p + n) xs := by
  obtain ⟨r, h⟩ := h
  have hl : ((unpk b).drop p).length = n + (xs ++ r).length := by rw [h, List.append_assoc, List.length_append, bitsOf_length]
  rw [List.length_drop, unpk_length] at hl
  refine ⟨?_, r, ?_⟩
  · unfold gb
    rw [if_pos (by omega)]
    unfold getN
    rw [h, List.append_assoc, List.take_left' (bitsOf_length v n), num_bitsOf]
  · rw [← List.drop_drop, h, List.append_assoc, List.drop_left' (bitsOf_length v n)]
theorem time_at {b : List Int} {p : Nat} {x : Int} {xs : List Int} (hx0 : -9223372036854775808 ≤ x) (hx1 : x < 9223372036854775808) (h : At b p (timeB x ++ xs)) : timeP b p = some (x, p + (timeB x).length) ∧ At b (p + (timeB x).length) xs := by
  unfold timeP
  by_cases h0 : x = 0
  · have e : timeB x = bitsOf 0 1 := by unfold timeB; rw [if_pos h0]
    rw [e] at h ⊢
    obtain ⟨h1, h2⟩ := gb_at h
    rw [h1, bitsOf_length]
    exact ⟨by simp [h0], h2⟩
  have two : ∀ (hd n lo z : Nat) (ys : List Int), At b p ((bitsOf hd n ++ bitsOf (x + (lo : Int)).toNat z) ++ ys) → At b p (bitsOf hd n ++ (bitsOf (x + (lo : Int)).toNat z ++ ys)) := fun _ _ _ _ _ h => by rwa [List.append_assoc] at h
  by_cases h1 : -63 ≤ x ∧ x ≤ 64
  · have e : timeB x = bitsOf 1 1 ++ (bitsOf 0 1 ++ bitsOf (x + 63).toNat 7) := by unfold timeB; rw [if_neg h0, if_pos h1]; rfl
    rw [e, List.append_assoc, List.append_assoc] at h
    obtain ⟨g1, h⟩ := gb_at h
    obtain ⟨g2, h⟩ := gb_at h
    obtain ⟨g3, h⟩ := gb_at h
    rw [g1, e]
    simp only [Option.bind_some, formsP, timeGo]
    rw [if_neg (by decide), g2]
    simp only [Option.bind_some]
    rw [if_pos (by decide), g3]
    simp only [Option.map_some, List.length_append, bitsOf_length]
    refine ⟨?_, ?_⟩
    · simp only [Option.some.injEq, Prod.mk.injEq]
      refine ⟨?_, by first | trivial | omega⟩
      omega
    · rw [← Nat.add_assoc, ← Nat.add_assoc]
      exact h
  by_cases h2 : -255 ≤ x ∧ x ≤ 256
  · have e : timeB x = bitsOf 1 1 ++ (bitsOf 1 1 ++ (bitsOf 0 1 ++ bitsOf (x + 255).toNat 9)) := by unfold timeB; rw [if_neg h0, if_neg h1, if_pos h2]; rfl
    rw [e, List.append_assoc, List.append_assoc, List.append_assoc] at h
    obtain ⟨g1, h⟩ := gb_at h
    obtain ⟨g2, h⟩ := gb_at h
    obtain ⟨g3, h⟩ := gb_at h
    obtain ⟨g4, h⟩ := gb_at h
    rw [g1, e]
    simp only [Option.bind_some, formsP, timeGo]
    rw [if_neg (by decide), g2]
    simp only [Option.bind_some]
    rw [if_neg (by decide), g3]
    simp only [Option.bind_some]
    rw [if_pos (by decide), g4]
    simp only [Option.map_some, List.length_append, bitsOf_length]
    refine ⟨?_, ?_⟩
    · simp only [Option.some.injEq, Prod.mk.injEq]
      refine ⟨?_, by first | trivial | omega⟩
      omega
    · rw [← Nat.add_assoc, ← Nat.add_assoc, ← Nat.add_assoc]
      exact h
  by_cases h3 : -2047 ≤ x ∧ x ≤ 2048
  · have e : timeB x = bitsOf 1 1 ++ (bitsOf 1 1 ++ (bitsOf 1 1 ++ (bitsOf 0 1 ++ bitsOf (x + 2047).toNat 12))) := by unfold timeB; rw [if_neg h0, if_neg h1, if_neg h2, if_pos h3]; rfl
    rw [e, List.append_assoc, List.append_assoc, List.append_assoc, List.append_assoc] at h
    obtain ⟨g1, h⟩ := gb_at h
    obtain ⟨g2, h⟩ := gb_at h
    obtain ⟨g3, h⟩ := gb_at h
    obtain ⟨g4, h⟩ := gb_at h
    obtain ⟨g5, h⟩ := gb_at h
    rw [g1, e]
    simp only [Option.bind_some, formsP, timeGo]
    rw [if_neg (by decide), g2]
    simp only [Option.bind_some]
    rw [if_neg (by decide), g3]
    simp only [Option.bind_some]
    rw [if_neg (by decide), g4]
    simp only [Option.bind_some]
    rw [if_pos (by decide), g5]
    simp only [Option.map_some, List.length_append, bitsOf_length]
    refine ⟨?_, ?_⟩
    · simp only [Option.some.injEq, Prod.mk.injEq]
      refine ⟨?_, by first | trivial | omega⟩
      omega
    · rw [← Nat.add_assoc, ← Nat.add_assoc, ← Nat.add_assoc, ← Nat.add_assoc]
      exact h
  · have e : timeB x = bitsOf 1 1 ++ (bitsOf 1 1 ++ (bitsOf 1 1 ++ (bitsOf 1 1 ++ bitsOf (x % 18446744073709551616).toNat 64))) := by unfold timeB; rw [if_neg h0, if_neg h1, if_neg h2, if_neg h3]; rfl
    rw [e, List.append_assoc, List.append_assoc, List.append_assoc, List.append_assoc] at h
    obtain ⟨g1, h⟩ := gb_at h
    obtain ⟨g2, h⟩ := gb_at h
    obtain ⟨g3, h⟩ := gb_at h
    obtain ⟨g4, h⟩ := gb_at h
    obtain ⟨g5, h⟩ := gb_at h
    rw [g1, e]
    simp only [Option.bind_some, formsP, timeGo]
    rw [if_neg (by decide), g2]
    simp only [Option.bind_some]
    rw [if_neg (by decide), g3]
    simp only [Option.bind_some]
    rw [if_neg (by decide), g4]
    simp only [Option.bind_some]
    rw [if_neg (by decide), g5]
    simp only [Option.map_some, List.length_append, bitsOf_length]
    refine ⟨?_, ?_⟩
    · simp only [Option.some.injEq, Prod.mk.injEq]
      refine ⟨?_, by first | trivial | omega⟩
      unfold wrap64
      omega
    · rw [← Nat.add_assoc, ← Nat.add_assoc, ← Nat.add_assoc, ← Nat.add_assoc]
      exact h
theorem low_value {y a t : Nat} (h1 : y < 2 ^ (64 - a)) (h2 : y % 2 ^ t = 0) (hab : a + t ≤ 63) (hy : y < 18446744073709551616) : y / 2 ^ t % 2 ^ (64 - a - t) * 2 ^ t % 18446744073709551616 = y := by
  have h3 : y / 2 ^ t < 2 ^ (64 - a - t) := by
    rw [Nat.div_lt_iff_lt_mul (Nat.pow_pos (by omega)), ← Nat.pow_add, show 64 - a - t + t = 64 - a from by omega]
    exact h1
  rw [Nat.mod_eq_of_lt h3, Nat.div_mul_cancel (Nat.dvd_of_mod_eq_zero h2), Nat.mod_eq_of_lt hy]
theorem mod_pow_le {y t s : Nat} (h : t ≤ s) (hs : y % 2 ^ s = 0) : y % 2 ^ t = 0 :=
  Nat.mod_eq_zero_of_dvd (Nat.dvd_trans (Nat.pow_dvd_pow 2 h) (Nat.dvd_of_mod_eq_zero hs))
theorem value_at {b : List Int} {p y : Nat} {w : Win} {xs : List Int} (hy : y < 18446744073709551616) (hw : w.Ok) (h : At b p ((valueB y w).1 ++ xs)) :
    valueP b p w = some ((y, (valueB y w).2), p + (valueB y w).1.length) ∧ At b (p + (valueB y w).1.length) xs := by
  unfold valueP
  by_cases h0 : y = 0
  · have e : valueB y w = (bitsOf 0 1, w) := by unfold valueB; rw [if_pos h0]
    rw [e] at h ⊢
    obtain ⟨g1, h⟩ := gb_at h
    rw [g1]
    simp only [Option.bind_some, bitsOf_length]
    exact ⟨by rw [if_pos (by decide), h0], h⟩
  by_cases hf : fits y w = true
  · cases w with
    | none => cases hf
    | some q =>
      obtain ⟨a, t⟩ := q
      have hab := (hw _ rfl).2
      simp only [fits, Bool.and_eq_true, decide_eq_true_eq] at hf
      have e : valueB y (some (a, t)) = (bitsOf 1 1 ++ (bitsOf 0 1 ++ bitsOf (y / 2 ^ t) (64 - a - t)), some (a, t)) := by
        unfold valueB
        rw [if_neg h0, if_pos (by simp [fits, hf])]
        rfl
      rw [e] at h ⊢
      simp only [List.append_assoc] at h
      obtain ⟨g1, h⟩ := gb_at h
      obtain ⟨g2, h⟩ := gb_at h
      obtain ⟨g3, h⟩ := gb_at h
      rw [g1]
      simp only [Option.bind_some]
      rw [if_neg (by decide), g2]
      simp only [Option.bind_some]
      rw [if_neg (by decide)]
      simp only [heldP, finP]
      rw [g3]
      have hlow := low_value (y := y) (a := a) (t := t) (Nat.lt_of_lt_of_le (lz_lt hy) (Nat.pow_le_pow_right (by omega) (by omega))) (mod_pow_le hf.2 (tz_mod h0 hy)) hab hy
      simp only [Option.map_some, List.length_append, bitsOf_length, hlow]
      refine ⟨by simp only [Nat.add_assoc], ?_⟩
      rw [← Nat.add_assoc, ← Nat.add_assoc]
      exact h
  · have hlt := lz_tz h0 hy
    have hlz := lz_le y
    have e : valueB y w = (bitsOf 1 1 ++ (bitsOf 1 1 ++ (bitsOf (lz y) 5 ++ (bitsOf (63 - lz y - tz y) 6 ++ bitsOf (y / 2 ^ tz y) (64 - lz y - tz y)))), some (lz y, tz y)) := by
      unfold valueB
      rw [if_neg h0, if_neg hf]
      simp only [List.append_assoc]
      rfl
    rw [e] at h ⊢
    simp only [List.append_assoc] at h
    obtain ⟨g1, h⟩ := gb_at h
    obtain ⟨g2, h⟩ := gb_at h
    obtain ⟨g3, h⟩ := gb_at h
    obtain ⟨g4, h⟩ := gb_at h
    obtain ⟨g5, h⟩ := gb_at h
    rw [g1]
    simp only [Option.bind_some]
    rw [if_neg (by decide), g2]
    simp only [Option.bind_some]
    rw [if_pos (by decide)]
    simp only [wideP]
    rw [g3]
    simp only [Option.bind_some]
    rw [g4]
    simp only [Option.bind_some]
    have e1 : lz y % 2 ^ 5 = lz y := Nat.mod_eq_of_lt (by omega)
    have e2 : (63 - lz y - tz y) % 2 ^ 6 = 63 - lz y - tz y := Nat.mod_eq_of_lt (by omega)
    rw [e1, e2, if_neg (by omega), show 63 - lz y - (63 - lz y - tz y) = tz y from by omega]
    simp only [finP]
    rw [g5]
    have hlow := low_value (y := y) (a := lz y) (t := tz y) (lz_lt hy) (tz_mod h0 hy) hlt hy
    simp only [Option.map_some, List.length_append, bitsOf_length, hlow]
    refine ⟨by simp only [Nat.add_assoc], ?_⟩
    simp only [← Nat.add_assoc]
    exact h
theorem xor_back (a b : Nat) : a ^^^ (b ^^^ a) = b := by rw [Nat.xor_comm b a, ← Nat.xor_assoc, Nat.xor_self, Nat.zero_xor]
/-- Points with small times and words. -/
def Fine (q : Pt) : Prop := (0 ≤ q.f0 ∧ q.f0 ≤ 1099511627776) ∧ (0 ≤ q.f1 ∧ q.f1 < 18446744073709551616) ∧ (0 ≤ q.f2 ∧ q.f2 < 18446744073709551616)
theorem head_at {b : List Int} {p : Nat} {q : Pt} {xs : List Int} (hq : Fine q) (h : At b p (first q ++ xs)) : headP b p = some (q, p + (first q).length) ∧ At b (p + (first q).length) xs := by
  obtain ⟨⟨t0, t1⟩, ⟨v0, v1⟩, s0, s1⟩ := hq
  rw [first_length]
  unfold first at h
  simp only [List.append_assoc] at h
  obtain ⟨g1, h⟩ := gb_at h
  obtain ⟨g2, h⟩ := gb_at h
  obtain ⟨g3, h⟩ := gb_at h
  unfold headP
  rw [g1]
  simp only [Option.bind_some]
  rw [g2]
  simp only [Option.bind_some]
  rw [g3]
  refine ⟨?_, by rw [show p + 192 = p + 64 + 64 + 64 from by omega]; exact h⟩
  obtain ⟨T, V, S⟩ := q
  simp only at t0 t1 v0 v1 s0 s1
  have e1 : wrap64 ((T.toNat % 2 ^ 64 : Nat) : Int) = T := by unfold wrap64; omega
  have e2 : ((V.toNat % 2 ^ 64 : Nat) : Int) = V := by omega
  have e3 : ((S.toNat % 2 ^ 64 : Nat) : Int) = S := by omega
  simp only [Option.map_some, e1, e2, e3, Nat.add_assoc]
theorem next_at {b : List Int} {p : Nat} {q r : Pt} {d : Int} {v s : Win} {xs : List Int} (hq : Fine q) (hr : Fine r) (hd : -1099511627776 ≤ d ∧ d ≤ 1099511627776) (hv : v.Ok) (hs : s.Ok) (h : At b p ((TeP.step q r (d, v, s)).1 ++ xs)) :
    nextP b p q d v s = some ((r, (TeP.step q r (d, v, s)).2), p + (TeP.step q r (d, v, s)).1.length) ∧ At b (p + (TeP.step q r (d, v, s)).1.length) xs := by
  have hyv : r.f1.toNat ^^^ q.f1.toNat < 18446744073709551616 := xor_lt hr.2.1 hq.2.1
  have hys : r.f2.toNat ^^^ q.f2.toNat < 18446744073709551616 := xor_lt hr.2.2 hq.2.2
  unfold TeP.step at h ⊢
  simp only [List.append_assoc] at h
  obtain ⟨g1, h⟩ := time_at (by have := hq.1; have := hr.1; omega) (by have := hq.1; have := hr.1; omega) h
  obtain ⟨g2, h⟩ := value_at hyv hv h
  obtain ⟨g3, h⟩ := value_at hys hs h
  unfold nextP
  rw [g1]
  simp only [Option.bind_some]
  rw [g2]
  simp only [Option.bind_some]
  rw [g3]
  have hq1 := hq.1
  have hr1 := hr.1
  have e0 : d + (r.f0 - q.f0 - d) = r.f0 - q.f0 := by omega
  have e1 : wrap64 (r.f0 - q.f0) = r.f0 - q.f0 := by unfold wrap64; omega
  have e2 : q.f0 + (r.f0 - q.f0) = r.f0 := by omega
  have e3 : wrap64 r.f0 = r.f0 := by unfold wrap64; omega
  have e4 : ((q.f1.toNat ^^^ (r.f1.toNat ^^^ q.f1.toNat) : Nat) : Int) = r.f1 := by rw [xor_back]; have := hr.2.1; omega
  have e5 : ((q.f2.toNat ^^^ (r.f2.toNat ^^^ q.f2.toNat) : Nat) : Int) = r.f2 := by rw [xor_back]; have := hr.2.2; omega
  simp only [Option.map_some, e0, e1, e2, e3, e4, e5, List.length_append, ← Nat.add_assoc]
  exact ⟨trivial, h⟩
/-- The bits of one point. -/
def pieceB (l : List Pt) (i : Nat) : List Int := if i = 0 then first (l.getD 0 zp) else (TeP.step (l.getD (i - 1) zp) (l.getD i zp) (goB l i).2).1
def restB (l : List Pt) : Nat → Nat → List Int
  | _, 0 => []
  | i, m + 1 => pieceB l i ++ restB l (i + 1) m
theorem goB_piece (l : List Pt) (i : Nat) : (goB l (i + 1)).1 = (goB l i).1 ++ pieceB l i := by
  unfold pieceB
  cases i with
  | zero => rw [goB_one]; rfl
  | succ j => rw [goB_succ, if_neg (by omega)]; rfl
theorem goB_rest (l : List Pt) : ∀ m i, (goB l (i + m)).1 = (goB l i).1 ++ restB l i m
  | 0, i => by simp [restB]
  | m + 1, i => by
    have := goB_rest l m (i + 1)
    rw [show i + (m + 1) = i + 1 + m from by omega, this, goB_piece, List.append_assoc]
    rfl
theorem bitsT_rest (l : List Pt) : bitsT l = restB l 0 l.length := by
  have := goB_rest l l.length 0
  rw [Nat.zero_add] at this
  unfold bitsT
  rw [this]
  rfl
theorem fine_getD {l : List Pt} (hk : checkF l = 0) (hok : OkL l) {i : Nat} (hi : i < l.length) : Fine (l.getD i zp) := by
  obtain ⟨_, hT, _⟩ := checkF_zero hk
  obtain ⟨t, v, s, hp, ht, hv, hs⟩ := pt_facts hT hok hi
  rw [hp]
  exact ⟨⟨by simp only; omega, by simp only; omega⟩, ⟨by simp only; omega, by simp only; omega⟩, ⟨by simp only; omega, by simp only; omega⟩⟩
theorem take_snoc {l : List Pt} {i : Nat} (hi : i < l.length) : l.take i ++ [l.getD i zp] = l.take (i + 1) := by
  rw [List.take_succ_eq_append_getElem hi, getD_at hi]
theorem go_at {l : List Pt} (hk : checkF l = 0) (hok : OkL l) (b : List Int) : ∀ (m i p : Nat), i + m = l.length → At b p (restB l i m) → goP b m (l.take i) (goB l i).2 p = some l := by
  intro m
  induction m with
  | zero =>
    intro i p hi h
    simp only [goP]
    rw [List.take_of_length_le (by omega)]
  | succ m ih =>
    intro i p hi h
    have hlt : i < l.length := by omega
    have hlen : (l.take i).length = i := by rw [List.length_take]; omega
    simp only [goP, hlen]
    rcases Nat.eq_zero_or_pos i with h0 | h0
    · subst h0
      have hp : restB l 0 (m + 1) = first (l.getD 0 zp) ++ restB l 1 m := rfl
      rw [hp] at h
      obtain ⟨g1, h⟩ := head_at (fine_getD hk hok hlt) h
      rw [if_pos rfl, g1]
      simp only [Option.bind_some]
      rw [take_snoc hlt]
      have := ih 1 _ (by omega) h
      rw [goB_one] at this
      exact this
    · obtain ⟨j, rfl⟩ : ∃ j, i = j + 1 := ⟨i - 1, by omega⟩
      have hp : restB l (j + 1) (m + 1) = (TeP.step (l.getD j zp) (l.getD (j + 1) zp) (goB l (j + 1)).2).1 ++ restB l (j + 2) m := by
        show pieceB l (j + 1) ++ _ = _
        unfold pieceB
        rw [if_neg (by omega)]
        rfl
      rw [hp] at h
      have hw := goB_ok hok (j + 1)
      have hd := goB_dist hk (j + 1) (by omega)
      obtain ⟨g1, h⟩ := next_at (fine_getD hk hok (by omega)) (fine_getD hk hok hlt) hd hw.1 hw.2 h
      have hgj : (l.take (j + 1)).getD (j + 1 - 1) zp = l.getD j zp := by
        rw [List.getD_eq_getElem?_getD, List.getD_eq_getElem?_getD, List.getElem?_take, if_pos (by omega)]
        rfl
      rw [if_neg (by omega), hgj, g1]
      simp only [Option.bind_some]
      rw [take_snoc hlt]
      have := ih (j + 2) _ (by omega) h
      rw [goB_succ] at this
      exact this
theorem points_at {l : List Pt} (hk : checkF l = 0) (hok : OkL l) {b : List Int} (h : At b 0 (bitsT l)) : pointsP b l.length = some l := by
  rw [bitsT_rest] at h
  exact go_at hk hok b l.length 0 0 (by omega) h
end Go.Proofs.YtmnlbedgkjnodaaDoor.TdP
namespace Go.Proofs.YtmnlbedgkjnodaaDoor.Sl
open Go.RowKit Go.Proofs.YtmnlbedgkjnodaaDoorW.PrintWords Go.Proofs.YtmnlbedgkjnodaaDoorW.PrintLast Go.Proofs.YtmnlbedgkjnodaaDoorW.PrintMore
set_option linter.unusedVariables false
set_option linter.unusedSimpArgs false
theorem Sat.madeRow {α : Type} {w0 w : World} {L : List Asn} (d : Kd α) (e : Nat) (c : Nat) (cells : Array Value) (hc : c ≤ maxLen) (hsz : cells.size = c * d.sz) (h : Sat w0 w L) : Sat w0 (w.alloc (.cells cells e)) (Row d e (.slice (some ⟨w.heap.size, 0, none⟩) 0 c) ([] : List α) :: L) := by
  refine h.push (below_alloc (Below.refl _ _) _) (G' := fun k => k = w.heap.size) ⟨fun k hk => ?_, [], ?_, Reps.none _ _⟩ (fun k hk => by subst hk; simp)
  · have : w.heap.size = k := by simpa [Value.ownBlock] using hk
    exact this.symm
  · exact World.ownsRow_made w cells c h.size hc hsz
section
variable {P : Program} {ops : Array Oper} {o : Oper} {a : Act} {Q : Exit → Act → World → Prop} {Kc : Act → World → Prop} {α : Type}
/-- append(v, p) in a region that draws its order; p's cells need no other block. -/
theorem Sat.appendStep (d : Kd α) {w0 W : World} {L : List Asn} (hw : Region.wanted o (yielded ops a.tmps) = true) (s x : Operand) (t e : TypeId) (z : Value) (bytes : Nat)
    (ho : o.op = .call { callee := .builtin .append, args := #[s, x], argTypes := #[t, t] })
    (ht : P.underlying t = some (.slice e)) (hinfo : (P.info? e).map (fun i => (i.zero, i.size, i.bytes)) = some (some z, d.sz, bytes)) (hz : z.cells.size = d.sz) (hs0 : 0 < d.sz) (hb0 : 0 < bytes)
    (v : Value) (xs : List α) (p : α) (cs : List Value) (hs : a.eval s = v) (hx : a.eval x = .slice (some ⟨W.heap.size, 0, none⟩) 1 1) (hp : d.M W w0.heap.size (fun _ => False) p cs)
    (HS : Sat w0 W (Row d e v xs :: L)) (hl : (xs.length + 1) * bytes ≤ 140737488355328)
    (h : ∀ v1 w1, Sat w0 w1 (Row d e v1 (xs ++ [p]) :: L) → W.heap.size ≤ w1.heap.size → Kc (a.put o.dst v1) w1) :
    if Region.wanted o (yielded ops a.tmps) = true then Oper.wp P o a (W.alloc (.cells cs.toArray e)) Kc Q else Kc (a.put o.dst undef) (W.alloc (.cells cs.toArray e)) := by
  obtain ⟨G, h1, h2, h3⟩ := HS.seps
  refine Kd.R_append_step d w0.heap.size hw s x t e z bytes ho ht hinfo hz hs0 hb0 v xs p cs (fun k => G k ∨ W.heap.size ≤ k) (fun _ => False) hs hx hp (fun _ hk => hk.elim) (fun _ hk => .inr hk)
    (Kd.R_mono h1 (fun _ hk => .inl hk)) HS.below HS.size hl ?_
  intro v1 w1 hR hB hg _
  exact h v1 w1 (Sat.grew HS.below h2 h3 hR hB hg (fun k hk => h1.1 k hk)) hg.size
/-- A call that panics, in a region that draws its order. -/
theorem goesP_ {oi : Oper} {N : Option Tmp} {w : World} {K : Act → World → Prop} {f : FuncId} {fn : Func} {as_ : Array Operand} {ts : Array TypeId} (hf : P.funcs[f]? = some fn) (hname : (fn.name == "runtime.NumGoroutine") = false) (hb : fn.body.isSome = true) (args : Array Value)
    (hw : Region.wanted oi (yielded ops a.tmps) = true) (hop : oi.op = .call { callee := .value (.func f), args := as_, argTypes := ts }) (hargs : as_.map a.eval = args) (chain : List PanicEntry)
    (h : Calls P f args w fun e w' => e = .panicked chain ∧ Q (.panic chain) a w') : if Region.wanted oi (yielded ops a.tmps) = true then Oper.wp P oi a w K Q else K (a.put N undef) w := by
  rw [if_pos hw]
  have he := enters_ hf hname hb args w
  have hrun : (execOp a.eval oi).run P w = .ok (.enter f args) w := by
    unfold execOp
    simp [hop, resolve, Deferred.ofValue, invoke, Act.eval, hargs, he]
  unfold Oper.wp
  rw [hrun, Oper.upon_enter]
  refine h.mono ?_
  rintro e w' ⟨rfl, hq⟩
  exact hq
end
end Go.Proofs.YtmnlbedgkjnodaaDoor.Sl
