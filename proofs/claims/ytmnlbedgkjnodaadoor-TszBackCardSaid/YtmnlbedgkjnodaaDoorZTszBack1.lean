/- More words for a walk's memory (see Sl): whole structs stored.
   Plain lemmas: lists of bits, their packing into bytes and back. No program in sight. -/
import Derived.Test.YtmnlbedgkjnodaaDoorZTszBack0
import Derived.Laws.Rows
import Derived.Laws.Tables
import Derived.RowKit
namespace Go.Proofs.YtmnlbedgkjnodaaDoor.Sl
open Go.RowKit Go.Proofs.YtmnlbedgkjnodaaDoorW.PrintWords Go.Proofs.YtmnlbedgkjnodaaDoorW.PrintLast Go.Proofs.YtmnlbedgkjnodaaDoorW.PrintMore
set_option linter.unusedVariables false
theorem Sat.setRow {w0 w : World} {L : List Asn} {g : Nat} {cs : Array Value} {t : TypeId} (h : Sat w0 w (Blk g cs t :: L)) (cs' : Array Value) : Sat w0 (w.setRow g cs') (Blk g cs' t :: L) := by
  have hge := h.ge
  have hlt := h.lt
  have hb := h.below
  refine h.turn (fun G hG hGB => ⟨fun k => k = g, ⟨rfl, setRow_heap w g cs cs' t (0, 0) hG.2⟩, hb.trans ⟨rfl, rfl, rfl, by simp, fun k hk => setRow_other w g k cs' (by omega)⟩, by simp, fun k _ hn => setRow_other w g k cs' (fun e => hn (by rw [e]; exact hG.1)), fun k hk => by subst hk; exact ⟨.inl hG.1, by simpa using hlt⟩⟩)
theorem alloc_size (w : World) (o : Obj) : (w.alloc o).heap.size = w.heap.size + 1 := Array.size_push _
end Go.Proofs.YtmnlbedgkjnodaaDoor.Sl
namespace Go.Proofs.YtmnlbedgkjnodaaDoor.Bt
set_option linter.unusedVariables false
set_option linter.unusedSimpArgs false

/-- The lowest n bits of v, the most significant of them first. -/
def bitsOf (v : Nat) : Nat → List Int
  | 0 => []
  | n + 1 => ((v / 2 ^ n % 2 : Nat) : Int) :: bitsOf v n
theorem bitsOf_length (v n : Nat) : (bitsOf v n).length = n := by
  induction n with
  | zero => rfl
  | succ n ih => simp [bitsOf, ih]
def IsBits (l : List Int) : Prop := ∀ x ∈ l, x = 0 ∨ x = 1
theorem bitsOf_isBits (v n : Nat) : IsBits (bitsOf v n) := by
  induction n with
  | zero => intro x hx; simp [bitsOf] at hx
  | succ n ih =>
    intro x hx
    rcases List.mem_cons.1 hx with rfl | hx
    · omega
    · exact ih x hx
theorem IsBits.append {a b : List Int} (ha : IsBits a) (hb : IsBits b) : IsBits (a ++ b) := fun x hx => (List.mem_append.1 hx).elim (ha x) (hb x)
theorem IsBits.left {a b : List Int} (h : IsBits (a ++ b)) : IsBits a := fun x hx => h x (List.mem_append_left _ hx)
theorem IsBits.right {a b : List Int} (h : IsBits (a ++ b)) : IsBits b := fun x hx => h x (List.mem_append_right _ hx)
theorem IsBits.take {a : List Int} (h : IsBits a) (n : Nat) : IsBits (a.take n) := fun x hx => h x (List.mem_of_mem_take hx)
theorem IsBits.drop {a : List Int} (h : IsBits a) (n : Nat) : IsBits (a.drop n) := fun x hx => h x (List.mem_of_mem_drop hx)
/-- v's bits in two parts. -/
theorem bitsOf_split (v m : Nat) : ∀ n, bitsOf v (n + m) = bitsOf (v / 2 ^ m) n ++ bitsOf v m
  | 0 => by simp [bitsOf]
  | n + 1 => by
    rw [show n + 1 + m = (n + m) + 1 from by omega]
    simp only [bitsOf, List.cons_append]
    rw [bitsOf_split v m n, Nat.div_div_eq_div_mul, ← Nat.pow_add, Nat.add_comm m n]
theorem bitsOf_mod (v n m : Nat) (h : n ≤ m) : bitsOf (v % 2 ^ m) n = bitsOf v n := by
  induction n with
  | zero => rfl
  | succ n ih =>
    simp only [bitsOf]
    rw [ih (by omega)]
    congr 2
    have e : 2 ^ m = 2 ^ n * 2 ^ (m - n) := by rw [← Nat.pow_add]; congr 1; omega
    rw [e, Nat.mod_mul_right_div_self, show m - n = (m - n - 1) + 1 from by omega, Nat.pow_succ, Nat.mul_comm, Nat.mod_mul_right_mod]

/-- A list of bits as a number. -/
def num (l : List Int) : Nat := l.foldl (fun a b => 2 * a + b.toNat) 0
theorem num_foldl (l : List Int) : ∀ a, l.foldl (fun a b => 2 * a + b.toNat) a = a * 2 ^ l.length + num l := by
  induction l with
  | nil => intro a; simp [num]
  | cons b l ih =>
    intro a
    simp only [List.foldl_cons, num, List.length_cons]
    rw [ih, ih, Nat.pow_succ]
    simp only [Nat.mul_zero, Nat.zero_add, Nat.add_mul]
    rw [Nat.mul_comm 2 a, Nat.mul_assoc, Nat.mul_comm 2 (2 ^ l.length)]
    omega
theorem num_nil : num [] = 0 := rfl
theorem num_append (a b : List Int) : num (a ++ b) = num a * 2 ^ b.length + num b := by
  unfold num
  rw [List.foldl_append, num_foldl]
  rfl
theorem num_cons (x : Int) (l : List Int) : num (x :: l) = x.toNat * 2 ^ l.length + num l := by
  have := num_append [x] l
  simpa [num] using this
theorem num_snoc (l : List Int) (x : Int) : num (l ++ [x]) = num l * 2 + x.toNat := by
  rw [num_append]
  simp [num]
theorem num_lt {l : List Int} (h : IsBits l) : num l < 2 ^ l.length := by
  induction l with
  | nil => simp [num]
  | cons x l ih =>
    rw [num_cons, List.length_cons, Nat.pow_succ]
    have := ih (fun y hy => h y (List.mem_cons_of_mem _ hy))
    rcases h x List.mem_cons_self with rfl | rfl
    · simp; omega
    · simp; omega
theorem num_bitsOf (v n : Nat) : num (bitsOf v n) = v % 2 ^ n := by
  induction n with
  | zero => simp [bitsOf, num, Nat.mod_one]
  | succ n ih =>
    simp only [bitsOf]
    rw [num_cons, ih, bitsOf_length, Int.toNat_natCast, Nat.pow_succ, Nat.mod_mul]
    rw [Nat.mul_comm (2 ^ n), Nat.add_comm]
theorem bitsOf_num {l : List Int} (h : IsBits l) : bitsOf (num l) l.length = l := by
  induction l with
  | nil => rfl
  | cons x l ih =>
    have hl : IsBits l := fun y hy => h y (List.mem_cons_of_mem _ hy)
    have hlt := num_lt hl
    have hp : 0 < 2 ^ l.length := Nat.pow_pos (by omega)
    simp only [List.length_cons, bitsOf]
    rw [num_cons]
    have e1 : (x.toNat * 2 ^ l.length + num l) / 2 ^ l.length = x.toNat := by
      rw [Nat.add_comm, Nat.add_mul_div_right _ _ hp, Nat.div_eq_of_lt hlt, Nat.zero_add]
    have e2 : bitsOf (x.toNat * 2 ^ l.length + num l) l.length = l := by
      rw [← bitsOf_mod _ _ _ (Nat.le_refl _), Nat.mul_add_mod_self_right, bitsOf_mod _ _ _ (Nat.le_refl _), ih hl]
    rw [e1, e2]
    congr 1
    rcases h x List.mem_cons_self with rfl | rfl <;> rfl

/-- A byte out of at most eight bits; noughts fill it up. -/
def byteOf (t : List Int) : Int := ((num t * 2 ^ (8 - t.length) : Nat) : Int)
/-- Bits in groups of eight. -/
def pk (l : List Int) : List Int := if h : l = [] then [] else byteOf (l.take 8) :: pk (l.drop 8)
termination_by l.length
decreasing_by
  have : 0 < l.length := List.length_pos_iff.2 h
  rw [List.length_drop]
  omega
theorem pk_nil : pk [] = [] := by rw [pk, dif_pos rfl]
theorem pk_cons {l : List Int} (h : l ≠ []) : pk l = byteOf (l.take 8) :: pk (l.drop 8) := by rw [pk, dif_neg h]
theorem pk_small {l : List Int} (h : l ≠ []) (h8 : l.length ≤ 8) : pk l = [byteOf l] := by
  rw [pk_cons h, List.take_of_length_le h8, List.drop_eq_nil_of_le h8, pk_nil]
theorem pk_induct {P : List Int → Prop} (h0 : P []) (h1 : ∀ l, l ≠ [] → P (l.drop 8) → P l) (l : List Int) : P l := by
  generalize hn : l.length = n
  induction n using Nat.strongRecOn generalizing l with
  | _ n ih =>
    by_cases h : l = []
    · subst h; exact h0
    · refine h1 l h (ih _ ?_ _ rfl)
      have : 0 < l.length := List.length_pos_iff.2 h
      rw [List.length_drop]
      omega
theorem pk_length (l : List Int) : (pk l).length = (l.length + 7) / 8 := by
  induction l using pk_induct with
  | h0 => rw [pk_nil]; rfl
  | h1 l h ih =>
    have : 0 < l.length := List.length_pos_iff.2 h
    rw [pk_cons h, List.length_cons, ih, List.length_drop]
    omega
theorem byteOf_range {t : List Int} (h : IsBits t) (h8 : t.length ≤ 8) : 0 ≤ byteOf t ∧ byteOf t < 256 := by
  unfold byteOf
  have h1 := num_lt h
  have h2 : num t * 2 ^ (8 - t.length) < 2 ^ t.length * 2 ^ (8 - t.length) := Nat.mul_lt_mul_of_pos_right h1 (Nat.pow_pos (by omega))
  rw [← Nat.pow_add, show t.length + (8 - t.length) = 8 from by omega] at h2
  omega
theorem pk_bytes {l : List Int} (h : IsBits l) : ∀ x ∈ pk l, 0 ≤ x ∧ x < 256 := by
  induction l using pk_induct with
  | h0 => intro x hx; rw [pk_nil] at hx; simp at hx
  | h1 l hl ih =>
    intro x hx
    rw [pk_cons hl] at hx
    rcases List.mem_cons.1 hx with rfl | hx
    · exact byteOf_range (h.take 8) (by rw [List.length_take]; omega)
    · exact ih (h.drop 8) x hx
/-- Bits behind whole bytes begin a new byte. -/
theorem pk_new {t : List Int} (ht : t ≠ []) (h8 : t.length ≤ 8) (l : List Int) : l.length % 8 = 0 → pk (l ++ t) = pk l ++ [byteOf t] := by
  induction l using pk_induct with
  | h0 => intro _; rw [pk_nil, List.nil_append, pk_small ht h8]; rfl
  | h1 l hl ih =>
    intro hm
    have : 0 < l.length := List.length_pos_iff.2 hl
    rw [pk_cons (by simp [hl]), pk_cons hl, List.take_append_of_le_length (by omega), List.drop_append_of_le_length (by omega), ih (by rw [List.length_drop]; omega)]
    rfl
/-- Bits that fit into the last byte are laid into it. -/
theorem pk_into {t : List Int} (l : List Int) : l.length % 8 ≠ 0 → l.length % 8 + t.length ≤ 8 →
    pk (l ++ t) = (pk l).set ((pk l).length - 1) ((pk l).getD ((pk l).length - 1) 0 + ((num t * 2 ^ (8 - l.length % 8 - t.length) : Nat) : Int)) := by
  induction l using pk_induct with
  | h0 => intro h; simp at h
  | h1 l hl ih =>
    intro hm h8
    have hp : 0 < l.length := List.length_pos_iff.2 hl
    rcases Nat.lt_or_ge l.length 8 with h | h
    · rw [pk_small hl (by omega), pk_small (by simp [hl]) (by rw [List.length_append]; omega)]
      simp only [List.length_cons, List.length_nil, List.set_cons_zero, List.getD_cons_zero]
      unfold byteOf
      rw [num_append, List.length_append, Nat.add_mul, Nat.mul_assoc, ← Nat.pow_add, show t.length + (8 - (l.length + t.length)) = 8 - l.length from by omega, show 8 - (l.length + t.length) = 8 - l.length % 8 - t.length from by omega]
      push_cast
      rfl
    · have hd : l.drop 8 ≠ [] := by
        intro e
        have := congrArg List.length e
        rw [List.length_drop] at this
        simp at this
        omega
      have hd2 : 0 < (pk (l.drop 8)).length := by rw [pk_length, List.length_drop]; omega
      rw [pk_cons (by simp [hl]), pk_cons hl, List.take_append_of_le_length h, List.drop_append_of_le_length h, ih (by rw [List.length_drop]; omega) (by rw [List.length_drop]; omega)]
      rw [List.length_cons, Nat.add_sub_cancel]
      obtain ⟨q, hq⟩ : ∃ q, (pk (l.drop 8)).length = q + 1 := ⟨(pk (l.drop 8)).length - 1, by omega⟩
      rw [hq, List.set_cons_succ, List.getD_cons_succ, Nat.add_sub_cancel, List.length_drop, show (l.length - 8) % 8 = l.length % 8 from by omega]

/-- The last byte of bits that don't fill it. -/
theorem pk_last (l : List Int) (hb : IsBits l) : l.length % 8 ≠ 0 → ∃ t : List Int, t.length = l.length % 8 ∧ IsBits t ∧ (pk l).getD ((pk l).length - 1) 0 = byteOf t := by
  induction l using pk_induct with
  | h0 => intro h; simp at h
  | h1 l hl ih =>
    intro hm
    have hp : 0 < l.length := List.length_pos_iff.2 hl
    rcases Nat.lt_or_ge l.length 8 with h | h
    · rw [pk_small hl (by omega)]
      exact ⟨l, by omega, hb, rfl⟩
    · obtain ⟨t, h1, h2, h3⟩ := ih (hb.drop 8) (by rw [List.length_drop]; omega)
      refine ⟨t, by rw [h1, List.length_drop]; omega, h2, ?_⟩
      have hd2 : 0 < (pk (l.drop 8)).length := by rw [pk_length, List.length_drop]; omega
      obtain ⟨q, hq⟩ : ∃ q, (pk (l.drop 8)).length = q + 1 := ⟨(pk (l.drop 8)).length - 1, by omega⟩
      rw [pk_cons hl, List.length_cons, hq, Nat.add_sub_cancel, List.getD_cons_succ, ← h3, hq, Nat.add_sub_cancel]
/-- Bits laid into a byte whose lower bits are 0. -/
theorem byte_low {t : List Int} (hb : IsBits t) (h8 : t.length ≤ 8) : ∃ b : Nat, byteOf t = (b : Int) ∧ b < 256 ∧ b % 2 ^ (8 - t.length) = 0 := by
  refine ⟨num t * 2 ^ (8 - t.length), rfl, ?_, Nat.mul_mod_left _ _⟩
  have := (byteOf_range hb h8).2
  unfold byteOf at this
  omega
/-- Bytes as bits. -/
def unpk (b : List Int) : List Int := (b.map fun x => bitsOf x.toNat 8).flatten
theorem unpk_cons (x : Int) (b : List Int) : unpk (x :: b) = bitsOf x.toNat 8 ++ unpk b := rfl
theorem unpk_append (a b : List Int) : unpk (a ++ b) = unpk a ++ unpk b := by simp [unpk]
theorem unpk_length (b : List Int) : (unpk b).length = 8 * b.length := by
  induction b with
  | nil => rfl
  | cons x b ih => rw [unpk_cons, List.length_append, bitsOf_length, ih, List.length_cons]; omega
theorem unpk_isBits (b : List Int) : IsBits (unpk b) := by
  induction b with
  | nil => intro x hx; simp [unpk] at hx
  | cons x b ih => rw [unpk_cons]; exact (bitsOf_isBits _ _).append ih
theorem bits_byteOf {t : List Int} (h : IsBits t) (h8 : t.length ≤ 8) : bitsOf (byteOf t).toNat 8 = t ++ List.replicate (8 - t.length) 0 := by
  unfold byteOf
  rw [Int.toNat_natCast]
  have h0 : IsBits (t ++ List.replicate (8 - t.length) 0) := h.append (fun x hx => .inl (List.eq_of_mem_replicate hx))
  have hz : ∀ n, num (List.replicate n 0) = 0 := by
    intro n
    induction n with
    | zero => rfl
    | succ n ih => rw [List.replicate_succ, num_cons, ih]; simp
  have e : num (t ++ List.replicate (8 - t.length) 0) = num t * 2 ^ (8 - t.length) := by rw [num_append, hz, List.length_replicate, Nat.add_zero]
  rw [← e]
  have e2 : (t ++ List.replicate (8 - t.length) 0).length = 8 := by rw [List.length_append, List.length_replicate]; omega
  have := bitsOf_num h0
  rwa [e2] at this
/-- What was packed is there, noughts behind it. -/
theorem unpk_pk {l : List Int} (h : IsBits l) : unpk (pk l) = l ++ List.replicate (8 * ((l.length + 7) / 8) - l.length) 0 := by
  induction l using pk_induct with
  | h0 => rw [pk_nil]; rfl
  | h1 l hl ih =>
    have hp : 0 < l.length := List.length_pos_iff.2 hl
    rw [pk_cons hl, unpk_cons, bits_byteOf (h.take 8) (by rw [List.length_take]; omega), ih (h.drop 8)]
    rcases Nat.lt_or_ge l.length 8 with h8 | h8
    · rw [List.take_of_length_le (by omega), List.drop_eq_nil_of_le (by omega)]
      simp
      congr 1
      omega
    · rw [List.length_take, Nat.min_eq_left h8, Nat.sub_self, List.replicate_zero, List.append_nil, ← List.append_assoc, List.take_append_drop, List.length_drop]
      congr 2
      omega
theorem num_unpk_byte {x : Int} (h0 : 0 ≤ x) (h : x < 256) : num (bitsOf x.toNat 8) = x.toNat := by rw [num_bitsOf]; omega
/-- The i-th bit of bytes. -/
theorem unpk_get (b : List Int) (i : Nat) (h : i < 8 * b.length) : (unpk b).getD i 0 = (((b.getD (i / 8) 0).toNat / 2 ^ (7 - i % 8) % 2 : Nat) : Int) := by
  induction b generalizing i with
  | nil => simp at h
  | cons x b ih =>
    rw [unpk_cons]
    rcases Nat.lt_or_ge i 8 with h8 | h8
    · have e : i / 8 = 0 := by omega
      rw [List.getD_eq_getElem?_getD, List.getElem?_append_left (by rw [bitsOf_length]; exact h8), e, List.getD_cons_zero]
      have hg : ∀ (v n i : Nat), i < n → (bitsOf v n)[i]? = some ((v / 2 ^ (n - 1 - i) % 2 : Nat) : Int) := by
        intro v n
        induction n with
        | zero => intro i hi; omega
        | succ n ih2 =>
          intro i hi
          cases i with
          | zero => simp [bitsOf]
          | succ i =>
            simp only [bitsOf, List.getElem?_cons_succ]
            rw [ih2 i (by omega), show n + 1 - 1 - (i + 1) = n - 1 - i from by omega]
      rw [hg _ 8 i h8]
      simp
      congr 3
      omega
    · rw [List.getD_eq_getElem?_getD, List.getElem?_append_right (by rw [bitsOf_length]; exact h8), bitsOf_length, ← List.getD_eq_getElem?_getD, ih (i - 8) (by simp at h; omega)]
      rw [show i / 8 = (i - 8) / 8 + 1 from by omega, List.getD_cons_succ, show (i - 8) % 8 = i % 8 from by omega]
end Go.Proofs.YtmnlbedgkjnodaaDoor.Bt
