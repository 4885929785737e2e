/- Plain lemmas: lists of bits, their packing into bytes and back. No program in sight.
   Plain lemmas: the encoding of numbers in groups of seven bits, and its reading. No program in sight.
   What functions of the translation come to, each as a Lean function, and a proof that the call comes to just that; or a law's row, out of its plain law. Written by mp.py, a program of this session, which runs the printer of the kit with stand-in bodies for some library functions. -/
import Derived.RowKit
import Derived.Laws.BitsAllLaws
import Derived.Laws.BytesArg
import Derived.Test.YtmnlbedgkjnodaaDoorWMore
import Derived.Test.YtmnlbedgkjnodaaDoorProg
import Derived.Below
import Derived.Deep.Draws
import Derived.Deep.AppendLies
import Derived.Maps.AppendAt
import Derived.OwnWalk
import Derived.Laws.MakeOwn
import Derived.Laws.OwnMore
import Derived.Deep.OwnRows
import Derived.Tactics
import Derived.Lib.ConvBytes
import Derived.Laws.Slices
import Derived.WalkKit
import Derived.KernelRfl
import Derived.RowKit3
import Derived.Deep.LoopGhost
import Derived.Deep.QuietTactic
import Derived.BigQuiet
import Derived.WideLaws
import Derived.Deep.DeepCutAuto
import Derived.Deep.CutBlock
import Derived.Deep.RegionHeld3
import Derived.Laws.Rows
import Derived.Lib.AppendStr
import Derived.ArgAppend
import Derived.Laws.IdiomCopy
import Derived.OrdersHeld
import Derived.Laws.BitsLemmas
import Derived.Lib.SliceRun
import Derived.Test.YtmnlbedgkjnodaaDoorWWords
import Derived.Test.YtmnlbedgkjnodaaDoorWLast
import Derived.Test.YtmnlbedgkjnodaaDoorWTab
import Derived.Test.YtmnlbedgkjnodaaDoorWQPut
import Derived.Test.YtmnlbedgkjnodaaDoorWApart
import Derived.Test.YtmnlbedgkjnodaaDoorWArr
import Derived.Test.YtmnlbedgkjnodaaDoorWZeros
import Derived.Test.YtmnlbedgkjnodaaDoorWFoot
import Derived.Test.YtmnlbedgkjnodaaDoorWKept
import Derived.Test.YtmnlbedgkjnodaaDoorWShare
import Derived.Test.YtmnlbedgkjnodaaDoorWN
import Derived.Test.YtmnlbedgkjnodaaDoorWFootNe
import Derived.Test.YtmnlbedgkjnodaaDoorWEqStruct
import Derived.Test.YtmnlbedgkjnodaaDoorWRepsOne
import Derived.Test.YtmnlbedgkjnodaaDoorWNEv
set_option linter.unusedSimpArgs false
set_option linter.unusedVariables false
namespace Go.Proofs.YtmnlbedgkjnodaaDoor.Bt
def bitsOf (v : Nat) : Nat → List Int
  | 0 => []
  | n + 1 => ((v / 2 ^ n % 2 : Nat) : Int) :: bitsOf v n
theorem bitsOf_length (v n : Nat) : (bitsOf v n).length = n := by
  induction n with
  | zero => rfl
  | succ n ih => simp [bitsOf, ih]
def IsBits (l : List Int) : Prop := ∀ x ∈ l, x = 0 ∨ x = 1
theorem bitsOf_isBits (v n : Nat) : IsBits (bitsOf v n) := by
  induction n with
  | zero => intro x hx; simp [bitsOf] at hx
  | succ n ih =>
    intro x hx
    rcases List.mem_cons.1 hx with rfl | hx
    · omega
    · exact ih x hx
theorem IsBits.append {a b : List Int} (ha : IsBits a) (hb : IsBits b) : IsBits (a ++ b) := fun x hx => (List.mem_append.1 hx).elim (ha x) (hb x)
theorem IsBits.left {a b : List Int} (h : IsBits (a ++ b)) : IsBits a := fun x hx => h x (List.mem_append_left _ hx)
theorem IsBits.right {a b : List Int} (h : IsBits (a ++ b)) : IsBits b := fun x hx => h x (List.mem_append_right _ hx)
theorem IsBits.take {a : List Int} (h : IsBits a) (n : Nat) : IsBits (a.take n) := fun x hx => h x (List.mem_of_mem_take hx)
theorem IsBits.drop {a : List Int} (h : IsBits a) (n : Nat) : IsBits (a.drop n) := fun x hx => h x (List.mem_of_mem_drop hx)
theorem bitsOf_split (v m : Nat) : ∀ n, bitsOf v (n + m) = bitsOf (v / 2 ^ m) n ++ bitsOf v m
  | 0 => by simp [bitsOf]
  | n + 1 => by
    rw [show n + 1 + m = (n + m) + 1 from by omega]
    simp only [bitsOf, List.cons_append]
    rw [bitsOf_split v m n, Nat.div_div_eq_div_mul, ← Nat.pow_add, Nat.add_comm m n]
theorem bitsOf_mod (v n m : Nat) (h : n ≤ m) : bitsOf (v % 2 ^ m) n = bitsOf v n := by
  induction n with
  | zero => rfl
  | succ n ih =>
    simp only [bitsOf]
    rw [ih (by omega)]
    congr 2
    have e : 2 ^ m = 2 ^ n * 2 ^ (m - n) := by rw [← Nat.pow_add]; congr 1; omega
    rw [e, Nat.mod_mul_right_div_self, show m - n = (m - n - 1) + 1 from by omega, Nat.pow_succ, Nat.mul_comm, Nat.mod_mul_right_mod]
def num (l : List Int) : Nat := l.foldl (fun a b => 2 * a + b.toNat) 0
theorem num_foldl (l : List Int) : ∀ a, l.foldl (fun a b => 2 * a + b.toNat) a = a * 2 ^ l.length + num l := by
  induction l with
  | nil => intro a; simp [num]
  | cons b l ih =>
    intro a
    simp only [List.foldl_cons, num, List.length_cons]
    rw [ih, ih, Nat.pow_succ]
    simp only [Nat.mul_zero, Nat.zero_add, Nat.add_mul]
    rw [Nat.mul_comm 2 a, Nat.mul_assoc, Nat.mul_comm 2 (2 ^ l.length)]
    omega
theorem num_nil : num [] = 0 := rfl
theorem num_append (a b : List Int) : num (a ++ b) = num a * 2 ^ b.length + num b := by
  unfold num
  rw [List.foldl_append, num_foldl]
  rfl
theorem num_cons (x : Int) (l : List Int) : num (x :: l) = x.toNat * 2 ^ l.length + num l := by
  have := num_append [x] l
  simpa [num] using this
theorem num_snoc (l : List Int) (x : Int) : num (l ++ [x]) = num l * 2 + x.toNat := by
  rw [num_append]
  simp [num]
theorem num_lt {l : List Int} (h : IsBits l) : num l < 2 ^ l.length := by
  induction l with
  | nil => simp [num]
  | cons x l ih =>
    rw [num_cons, List.length_cons, Nat.pow_succ]
    have := ih (fun y hy => h y (List.mem_cons_of_mem _ hy))
    rcases h x List.mem_cons_self with rfl | rfl
    · simp; omega
    · simp; omega
theorem num_bitsOf (v n : Nat) : num (bitsOf v n) = v % 2 ^ n := by
  induction n with
  | zero => simp [bitsOf, num, Nat.mod_one]
  | succ n ih =>
    simp only [bitsOf]
    rw [num_cons, ih, bitsOf_length, Int.toNat_natCast, Nat.pow_succ, Nat.mod_mul]
    rw [Nat.mul_comm (2 ^ n), Nat.add_comm]
theorem bitsOf_num {l : List Int} (h : IsBits l) : bitsOf (num l) l.length = l := by
  induction l with
  | nil => rfl
  | cons x l ih =>
    have hl : IsBits l := fun y hy => h y (List.mem_cons_of_mem _ hy)
    have hlt := num_lt hl
    have hp : 0 < 2 ^ l.length := Nat.pow_pos (by omega)
    simp only [List.length_cons, bitsOf]
    rw [num_cons]
    have e1 : (x.toNat * 2 ^ l.length + num l) / 2 ^ l.length = x.toNat := by
      rw [Nat.add_comm, Nat.add_mul_div_right _ _ hp, Nat.div_eq_of_lt hlt, Nat.zero_add]
    have e2 : bitsOf (x.toNat * 2 ^ l.length + num l) l.length = l := by
      rw [← bitsOf_mod _ _ _ (Nat.le_refl _), Nat.mul_add_mod_self_right, bitsOf_mod _ _ _ (Nat.le_refl _), ih hl]
    rw [e1, e2]
    congr 1
    rcases h x List.mem_cons_self with rfl | rfl <;> rfl
def byteOf (t : List Int) : Int := ((num t * 2 ^ (8 - t.length) : Nat) : Int)
def pk (l : List Int) : List Int := if h : l = [] then [] else byteOf (l.take 8) :: pk (l.drop 8)
termination_by l.length
decreasing_by
  have : 0 < l.length := List.length_pos_iff.2 h
  rw [List.length_drop]
  omega
theorem pk_nil : pk [] = [] := by rw [pk, dif_pos rfl]
theorem pk_cons {l : List Int} (h : l ≠ []) : pk l = byteOf (l.take 8) :: pk (l.drop 8) := by rw [pk, dif_neg h]
theorem pk_small {l : List Int} (h : l ≠ []) (h8 : l.length ≤ 8) : pk l = [byteOf l] := by
  rw [pk_cons h, List.take_of_length_le h8, List.drop_eq_nil_of_le h8, pk_nil]
theorem pk_induct {P : List Int → Prop} (h0 : P []) (h1 : ∀ l, l ≠ [] → P (l.drop 8) → P l) (l : List Int) : P l := by
  generalize hn : l.length = n
  induction n using Nat.strongRecOn generalizing l with
  | _ n ih =>
    by_cases h : l = []
    · subst h; exact h0
    · refine h1 l h (ih _ ?_ _ rfl)
      have : 0 < l.length := List.length_pos_iff.2 h
      rw [List.length_drop]
      omega
theorem pk_length (l : List Int) : (pk l).length = (l.length + 7) / 8 := by
  induction l using pk_induct with
  | h0 => rw [pk_nil]; rfl
  | h1 l h ih =>
    have : 0 < l.length := List.length_pos_iff.2 h
    rw [pk_cons h, List.length_cons, ih, List.length_drop]
    omega
theorem byteOf_range {t : List Int} (h : IsBits t) (h8 : t.length ≤ 8) : 0 ≤ byteOf t ∧ byteOf t < 256 := by
  unfold byteOf
  have h1 := num_lt h
  have h2 : num t * 2 ^ (8 - t.length) < 2 ^ t.length * 2 ^ (8 - t.length) := Nat.mul_lt_mul_of_pos_right h1 (Nat.pow_pos (by omega))
  rw [← Nat.pow_add, show t.length + (8 - t.length) = 8 from by omega] at h2
  omega
theorem pk_bytes {l : List Int} (h : IsBits l) : ∀ x ∈ pk l, 0 ≤ x ∧ x < 256 := by
  induction l using pk_induct with
  | h0 => intro x hx; rw [pk_nil] at hx; simp at hx
  | h1 l hl ih =>
    intro x hx
    rw [pk_cons hl] at hx
    rcases List.mem_cons.1 hx with rfl | hx
    · exact byteOf_range (h.take 8) (by rw [List.length_take]; omega)
    · exact ih (h.drop 8) x hx
theorem pk_new {t : List Int} (ht : t ≠ []) (h8 : t.length ≤ 8) (l : List Int) : l.length % 8 = 0 → pk (l ++ t) = pk l ++ [byteOf t] := by
  induction l using pk_induct with
  | h0 => intro _; rw [pk_nil, List.nil_append, pk_small ht h8]; rfl
  | h1 l hl ih =>
    intro hm
    have : 0 < l.length := List.length_pos_iff.2 hl
    rw [pk_cons (by simp [hl]), pk_cons hl, List.take_append_of_le_length (by omega), List.drop_append_of_le_length (by omega), ih (by rw [List.length_drop]; omega)]
    rfl
theorem pk_into {t : List Int} (l : List Int) : l.length % 8 ≠ 0 → l.length % 8 + t.length ≤ 8 →
    pk (l ++ t) = (pk l).set ((pk l).length - 1) ((pk l).getD ((pk l).length - 1) 0 + ((num t * 2 ^ (8 - l.length % 8 - t.length) : Nat) : Int)) := by
  induction l using pk_induct with
  | h0 => intro h; simp at h
  | h1 l hl ih =>
    intro hm h8
    have hp : 0 < l.length := List.length_pos_iff.2 hl
    rcases Nat.lt_or_ge l.length 8 with h | h
    · rw [pk_small hl (by omega), pk_small (by simp [hl]) (by rw [List.length_append]; omega)]
      simp only [List.length_cons, List.length_nil, List.set_cons_zero, List.getD_cons_zero]
      unfold byteOf
      rw [num_append, List.length_append, Nat.add_mul, Nat.mul_assoc, ← Nat.pow_add, show t.length + (8 - (l.length + t.length)) = 8 - l.length from by omega, show 8 - (l.length + t.length) = 8 - l.length % 8 - t.length from by omega]
      push_cast
      rfl
    · have hd : l.drop 8 ≠ [] := by
        intro e
        have := congrArg List.length e
        rw [List.length_drop] at this
        simp at this
        omega
      have hd2 : 0 < (pk (l.drop 8)).length := by rw [pk_length, List.length_drop]; omega
      rw [pk_cons (by simp [hl]), pk_cons hl, List.take_append_of_le_length h, List.drop_append_of_le_length h, ih (by rw [List.length_drop]; omega) (by rw [List.length_drop]; omega)]
      rw [List.length_cons, Nat.add_sub_cancel]
      obtain ⟨q, hq⟩ : ∃ q, (pk (l.drop 8)).length = q + 1 := ⟨(pk (l.drop 8)).length - 1, by omega⟩
      rw [hq, List.set_cons_succ, List.getD_cons_succ, Nat.add_sub_cancel, List.length_drop, show (l.length - 8) % 8 = l.length % 8 from by omega]
theorem pk_last (l : List Int) (hb : IsBits l) : l.length % 8 ≠ 0 → ∃ t : List Int, t.length = l.length % 8 ∧ IsBits t ∧ (pk l).getD ((pk l).length - 1) 0 = byteOf t := by
  induction l using pk_induct with
  | h0 => intro h; simp at h
  | h1 l hl ih =>
    intro hm
    have hp : 0 < l.length := List.length_pos_iff.2 hl
    rcases Nat.lt_or_ge l.length 8 with h | h
    · rw [pk_small hl (by omega)]
      exact ⟨l, by omega, hb, rfl⟩
    · obtain ⟨t, h1, h2, h3⟩ := ih (hb.drop 8) (by rw [List.length_drop]; omega)
      refine ⟨t, by rw [h1, List.length_drop]; omega, h2, ?_⟩
      have hd2 : 0 < (pk (l.drop 8)).length := by rw [pk_length, List.length_drop]; omega
      obtain ⟨q, hq⟩ : ∃ q, (pk (l.drop 8)).length = q + 1 := ⟨(pk (l.drop 8)).length - 1, by omega⟩
      rw [pk_cons hl, List.length_cons, hq, Nat.add_sub_cancel, List.getD_cons_succ, ← h3, hq, Nat.add_sub_cancel]
theorem byte_low {t : List Int} (hb : IsBits t) (h8 : t.length ≤ 8) : ∃ b : Nat, byteOf t = (b : Int) ∧ b < 256 ∧ b % 2 ^ (8 - t.length) = 0 := by
  refine ⟨num t * 2 ^ (8 - t.length), rfl, ?_, Nat.mul_mod_left _ _⟩
  have := (byteOf_range hb h8).2
  unfold byteOf at this
  omega
def unpk (b : List Int) : List Int := (b.map fun x => bitsOf x.toNat 8).flatten
theorem unpk_cons (x : Int) (b : List Int) : unpk (x :: b) = bitsOf x.toNat 8 ++ unpk b := rfl
theorem unpk_append (a b : List Int) : unpk (a ++ b) = unpk a ++ unpk b := by simp [unpk]
theorem unpk_length (b : List Int) : (unpk b).length = 8 * b.length := by
  induction b with
  | nil => rfl
  | cons x b ih => rw [unpk_cons, List.length_append, bitsOf_length, ih, List.length_cons]; omega
theorem unpk_isBits (b : List Int) : IsBits (unpk b) := by
  induction b with
  | nil => intro x hx; simp [unpk] at hx
  | cons x b ih => rw [unpk_cons]; exact (bitsOf_isBits _ _).append ih
theorem bits_byteOf {t : List Int} (h : IsBits t) (h8 : t.length ≤ 8) : bitsOf (byteOf t).toNat 8 = t ++ List.replicate (8 - t.length) 0 := by
  unfold byteOf
  rw [Int.toNat_natCast]
  have h0 : IsBits (t ++ List.replicate (8 - t.length) 0) := h.append (fun x hx => .inl (List.eq_of_mem_replicate hx))
  have hz : ∀ n, num (List.replicate n 0) = 0 := by
    intro n
    induction n with
    | zero => rfl
    | succ n ih => rw [List.replicate_succ, num_cons, ih]; simp
  have e : num (t ++ List.replicate (8 - t.length) 0) = num t * 2 ^ (8 - t.length) := by rw [num_append, hz, List.length_replicate, Nat.add_zero]
  rw [← e]
  have e2 : (t ++ List.replicate (8 - t.length) 0).length = 8 := by rw [List.length_append, List.length_replicate]; omega
  have := bitsOf_num h0
  rwa [e2] at this
theorem unpk_pk {l : List Int} (h : IsBits l) : unpk (pk l) = l ++ List.replicate (8 * ((l.length + 7) / 8) - l.length) 0 := by
  induction l using pk_induct with
  | h0 => rw [pk_nil]; rfl
  | h1 l hl ih =>
    have hp : 0 < l.length := List.length_pos_iff.2 hl
    rw [pk_cons hl, unpk_cons, bits_byteOf (h.take 8) (by rw [List.length_take]; omega), ih (h.drop 8)]
    rcases Nat.lt_or_ge l.length 8 with h8 | h8
    · rw [List.take_of_length_le (by omega), List.drop_eq_nil_of_le (by omega)]
      simp
      congr 1
      omega
    · rw [List.length_take, Nat.min_eq_left h8, Nat.sub_self, List.replicate_zero, List.append_nil, ← List.append_assoc, List.take_append_drop, List.length_drop]
      congr 2
      omega
theorem unpk_get (b : List Int) (i : Nat) (h : i < 8 * b.length) : (unpk b).getD i 0 = (((b.getD (i / 8) 0).toNat / 2 ^ (7 - i % 8) % 2 : Nat) : Int) := by
  induction b generalizing i with
  | nil => simp at h
  | cons x b ih =>
    rw [unpk_cons]
    rcases Nat.lt_or_ge i 8 with h8 | h8
    · have e : i / 8 = 0 := by omega
      rw [List.getD_eq_getElem?_getD, List.getElem?_append_left (by rw [bitsOf_length]; exact h8), e, List.getD_cons_zero]
      have hg : ∀ (v n i : Nat), i < n → (bitsOf v n)[i]? = some ((v / 2 ^ (n - 1 - i) % 2 : Nat) : Int) := by
        intro v n
        induction n with
        | zero => intro i hi; omega
        | succ n ih2 =>
          intro i hi
          cases i with
          | zero => simp [bitsOf]
          | succ i =>
            simp only [bitsOf, List.getElem?_cons_succ]
            rw [ih2 i (by omega), show n + 1 - 1 - (i + 1) = n - 1 - i from by omega]
      rw [hg _ 8 i h8]
      simp
      congr 3
      omega
    · rw [List.getD_eq_getElem?_getD, List.getElem?_append_right (by rw [bitsOf_length]; exact h8), bitsOf_length, ← List.getD_eq_getElem?_getD, ih (i - 8) (by simp at h; omega)]
      rw [show i / 8 = (i - 8) / 8 + 1 from by omega, List.getD_cons_succ, show (i - 8) % 8 = i % 8 from by omega]
end Go.Proofs.YtmnlbedgkjnodaaDoor.Bt
namespace Go.Proofs.YtmnlbedgkjnodaaDoor.Uv
open Go.RowKit Go.Proofs.YtmnlbedgkjnodaaDoorW.PrintWords Go.Proofs.YtmnlbedgkjnodaaDoorW.PrintLast Go.Proofs.YtmnlbedgkjnodaaDoorW.PrintMore
def uv (v : Nat) : List Int := if _h : v < 128 then [(v : Int)] else ((v % 128 + 128 : Nat) : Int) :: uv (v / 128)
termination_by v
decreasing_by omega
theorem uv_small {v : Nat} (h : v < 128) : uv v = [(v : Int)] := by rw [uv, dif_pos h]
theorem uv_big {v : Nat} (h : 128 ≤ v) : uv v = ((v % 128 + 128 : Nat) : Int) :: uv (v / 128) := by rw [uv, dif_neg (by omega)]
theorem uv_ne (v : Nat) : uv v ≠ [] := by
  rcases Nat.lt_or_ge v 128 with h | h
  · rw [uv_small h]; simp
  · rw [uv_big h]; simp
theorem uv_pos (v : Nat) : 0 < (uv v).length := List.length_pos_iff.2 (uv_ne v)
theorem uv_induct {P : Nat → Prop} (h0 : ∀ v, v < 128 → P v) (h1 : ∀ v, 128 ≤ v → P (v / 128) → P v) (v : Nat) : P v := by
  induction v using Nat.strongRecOn with
  | _ v ih =>
    rcases Nat.lt_or_ge v 128 with h | h
    · exact h0 v h
    · exact h1 v h (ih _ (by omega))
theorem uv_bytes (v : Nat) : ∀ x ∈ uv v, 0 ≤ x ∧ x < 256 := by
  induction v using uv_induct with
  | h0 v h => rw [uv_small h]; intro x hx; simp at hx; omega
  | h1 v h ih =>
    rw [uv_big h]
    intro x hx
    rcases List.mem_cons.1 hx with rfl | hx
    · omega
    · exact ih x hx
theorem uv_length_le (v : Nat) : ∀ n, v < 128 ^ n → 0 < n → (uv v).length ≤ n := by
  induction v using uv_induct with
  | h0 v h => intro n _ hn; rw [uv_small h]; simp; omega
  | h1 v h ih =>
    intro n hv hn
    rw [uv_big h, List.length_cons]
    have hn1 : 1 < n := by
      rcases Nat.lt_or_ge 1 n with h1 | h1
      · exact h1
      · have : n = 1 := by omega
        subst this; omega
    have := ih (n - 1) (by
      have e : 128 ^ n = 128 ^ (n - 1) * 128 := by rw [← Nat.pow_succ]; congr 1; omega
      rw [e] at hv
      exact Nat.div_lt_of_lt_mul (by rwa [Nat.mul_comm])) (by omega)
    omega
theorem uv_length10 {v : Nat} (h : v < 18446744073709551616) : (uv v).length ≤ 10 := uv_length_le v 10 (by omega) (by omega)
def val : List Int → Nat
  | [] => 0
  | c :: t => c.toNat % 128 + 128 * val t
theorem val_uv (v : Nat) : val (uv v) = v := by
  induction v using uv_induct with
  | h0 v h => rw [uv_small h]; simp [val]; omega
  | h1 v h ih => rw [uv_big h]; simp only [val]; rw [ih]; omega
def Run : List Int → Prop
  | [] => False
  | [c] => 0 ≤ c ∧ c < 128
  | c :: t => (128 ≤ c ∧ c < 256) ∧ Run t
theorem run_uv (v : Nat) : Run (uv v) := by
  induction v using uv_induct with
  | h0 v h => rw [uv_small h]; simp [Run]; omega
  | h1 v h ih =>
    rw [uv_big h]
    cases hu : uv (v / 128) with
    | nil => exact absurd hu (uv_ne _)
    | cons c t => rw [hu] at ih; exact ⟨by omega, ih⟩
def ruvGo : Nat → Nat → List Int → Int × Int
  | _, _, [] => (0, 0)
  | i, acc, c :: t => if i = 9 ∧ c > 1 then (0, 0) else if c < 128 then (if c = 0 ∧ 0 < i then (0, 0) else (((acc + c.toNat % 128 * 2 ^ (7 * i) : Nat) : Int), ((i + 1 : Nat) : Int))) else ruvGo (i + 1) (acc + c.toNat % 128 * 2 ^ (7 * i)) t
def ruv (l : List Int) : Int × Int := ruvGo 0 0 l
theorem pow7 (i : Nat) : (2 : Nat) ^ (7 * (i + 1)) = 128 * 2 ^ (7 * i) := by rw [show 7 * (i + 1) = 7 * i + 7 from by omega, Nat.pow_add]; omega
theorem two7 (i : Nat) : 0 < (2 : Nat) ^ (7 * i) := Nat.pow_pos (by omega)
theorem ruvGo_uv (v : Nat) : ∀ (i acc : Nat) (t : List Int), v * 2 ^ (7 * i) < 18446744073709551616 → (0 < i → 0 < v) → ruvGo i acc (uv v ++ t) = (((acc + v * 2 ^ (7 * i) : Nat) : Int), ((i + (uv v).length : Nat) : Int)) := by
  induction v using uv_induct with
  | h0 v h =>
    intro i acc t hv hi
    rw [uv_small h]
    simp only [List.cons_append, List.nil_append, ruvGo]
    rw [if_neg, if_pos (by omega), if_neg (by omega)]
    · rw [Int.toNat_natCast, Nat.mod_eq_of_lt h]
      rfl
    · rintro ⟨rfl, h2⟩
      simp at hv
      omega
  | h1 v h ih =>
    intro i acc t hv hi
    have hp := two7 i
    have hlt : i < 9 := by
      rcases Nat.lt_or_ge i 9 with h9 | h9
      · exact h9
      · exfalso
        have : (2 : Nat) ^ (7 * 9) ≤ 2 ^ (7 * i) := Nat.pow_le_pow_right (by omega) (by omega)
        have : 128 * 2 ^ (7 * 9) ≤ v * 2 ^ (7 * i) := Nat.mul_le_mul h this
        omega
    rw [uv_big h]
    simp only [List.cons_append, ruvGo]
    rw [if_neg (by omega), if_neg (by omega)]
    have hm : v / 128 * 2 ^ (7 * (i + 1)) ≤ v * 2 ^ (7 * i) := by
      rw [pow7, ← Nat.mul_assoc]
      exact Nat.mul_le_mul_right _ (by omega)
    rw [ih (i + 1) _ t (by omega) (by omega)]
    have e : ((v % 128 + 128 : Nat) : Int).toNat % 128 = v % 128 := by omega
    rw [e, pow7]
    have e2 : acc + v % 128 * 2 ^ (7 * i) + v / 128 * (128 * 2 ^ (7 * i)) = acc + v * 2 ^ (7 * i) := by
      rw [← Nat.mul_assoc, Nat.add_assoc, ← Nat.add_mul]
      congr 2
      omega
    rw [e2]
    simp
    omega
theorem ruv_uv {v : Nat} (h : v < 18446744073709551616) (t : List Int) : ruv (uv v ++ t) = ((v : Int), ((uv v).length : Int)) := by
  unfold ruv
  rw [ruvGo_uv v 0 0 t (by simpa using h) (by omega)]
  simp
theorem ruvGo_sound : ∀ (l : List Int) (i acc : Nat), i ≤ 9 → (∀ x ∈ l, 0 ≤ x ∧ x < 256) → ∀ r n, ruvGo i acc l = (r, n) → n ≠ 0 →
    ∃ v t, l = uv v ++ t ∧ r = ((acc + v * 2 ^ (7 * i) : Nat) : Int) ∧ n = ((i + (uv v).length : Nat) : Int) ∧ v * 2 ^ (7 * i) < 18446744073709551616 ∧ (0 < i → 0 < v)
  | [], i, acc, _, _, r, n, h, hn => by
    simp only [ruvGo, Prod.mk.injEq] at h
    exact absurd h.2.symm hn
  | c :: t, i, acc, hi, hb, r, n, h, hn => by
    have hc := hb c List.mem_cons_self
    simp only [ruvGo] at h
    by_cases h9 : i = 9 ∧ c > 1
    · rw [if_pos h9] at h
      simp only [Prod.mk.injEq] at h
      exact absurd h.2.symm hn
    rw [if_neg h9] at h
    by_cases h128 : c < 128
    · rw [if_pos h128] at h
      by_cases h0 : c = 0 ∧ 0 < i
      · rw [if_pos h0] at h
        simp only [Prod.mk.injEq] at h
        exact absurd h.2.symm hn
      rw [if_neg h0] at h
      simp only [Prod.mk.injEq] at h
      refine ⟨c.toNat, t, ?_, ?_, ?_, ?_, by omega⟩
      · rw [uv_small (by omega)]
        simp
        omega
      · rw [← h.1, show c.toNat % 128 = c.toNat from by omega]
      · rw [← h.2, uv_small (by omega)]
        simp
      · rcases Nat.lt_or_ge i 9 with hlt | hge
        · have : (2 : Nat) ^ (7 * i) ≤ 2 ^ (7 * 8) := Nat.pow_le_pow_right (by omega) (by omega)
          have : c.toNat * 2 ^ (7 * i) ≤ 127 * 2 ^ (7 * 8) := Nat.mul_le_mul (by omega) this
          omega
        · have e : i = 9 := by omega
          subst e
          have : c.toNat ≤ 1 := by omega
          have : c.toNat * 2 ^ (7 * 9) ≤ 1 * 2 ^ (7 * 9) := Nat.mul_le_mul_right _ this
          omega
    · rw [if_neg h128] at h
      have hi' : i + 1 ≤ 9 := by omega
      obtain ⟨v, t', ht, hr, hn', hv, hv0⟩ := ruvGo_sound t (i + 1) _ hi' (fun x hx => hb x (List.mem_cons_of_mem _ hx)) r n h hn
      have hv1 := hv0 (by omega)
      have hw : (c.toNat % 128 + 128 * v) / 128 = v := by omega
      have hu : uv (c.toNat % 128 + 128 * v) = c :: uv v := by
        rw [uv_big (by omega), hw]
        congr 1
        omega
      have hp := two7 i
      have e1 : (c.toNat % 128 + 128 * v) * 2 ^ (7 * i) = c.toNat % 128 * 2 ^ (7 * i) + v * 2 ^ (7 * (i + 1)) := by
        rw [pow7, Nat.add_mul, ← Nat.mul_assoc, Nat.mul_comm 128 v]
      refine ⟨c.toNat % 128 + 128 * v, t', ?_, ?_, ?_, ?_, by omega⟩
      · rw [hu, ht]; rfl
      · rw [hr, e1]
        congr 1
        omega
      · rw [hn', hu, List.length_cons]
        congr 1
        omega
      · rw [e1, pow7]
        have hd : (18446744073709551616 : Nat) = 128 * 2 ^ (7 * i) * (2 ^ (57 - 7 * i)) ∨ i = 9 ∨ ¬ i ≤ 8 := by
          rcases Nat.lt_or_ge i 9 with h1 | h1
          · left
            rw [Nat.mul_assoc, ← Nat.pow_add, show 7 * i + (57 - 7 * i) = 57 from by omega]
          · right; left; omega
        rcases hd with hd | hd | hd
        · have hv2 : v < 2 ^ (57 - 7 * i) := by
            rw [pow7, hd, Nat.mul_comm (128 * 2 ^ (7 * i))] at hv
            exact Nat.lt_of_mul_lt_mul_right hv
          have h3 : c.toNat % 128 * 2 ^ (7 * i) < 128 * 2 ^ (7 * i) := Nat.mul_lt_mul_of_pos_right (by omega) hp
          have h4 : (v + 1) * (128 * 2 ^ (7 * i)) ≤ 2 ^ (57 - 7 * i) * (128 * 2 ^ (7 * i)) := Nat.mul_le_mul_right _ hv2
          rw [Nat.add_mul] at h4
          rw [Nat.mul_comm (2 ^ (57 - 7 * i)), ← hd] at h4
          omega
        · omega
        · omega
theorem ruv_sound {l : List Int} (hb : ∀ x ∈ l, 0 ≤ x ∧ x < 256) {r n : Int} (h : ruv l = (r, n)) (hn : n ≠ 0) :
    ∃ (v : Nat) (t : List Int), l = uv v ++ t ∧ r = (v : Int) ∧ n = ((uv v).length : Int) ∧ v < 18446744073709551616 := by
  obtain ⟨v, t, h1, h2, h3, h4, _⟩ := ruvGo_sound l 0 0 (by omega) hb r n h hn
  exact ⟨v, t, h1, by simpa using h2, by simpa using h3, by simpa using h4⟩
theorem ruvGo_none : ∀ (l : List Int) (i acc : Nat) (r : Int), ruvGo i acc l = (r, 0) → r = 0
  | [], _, _, r, h => by simp only [ruvGo, Prod.mk.injEq] at h; exact h.1.symm
  | c :: t, i, acc, r, h => by
    simp only [ruvGo] at h
    split at h
    · simp only [Prod.mk.injEq] at h; exact h.1.symm
    · split at h
      · split at h
        · simp only [Prod.mk.injEq] at h; exact h.1.symm
        · simp only [Prod.mk.injEq] at h; omega
      · exact ruvGo_none t _ _ r h
theorem ruv_none {l : List Int} {r : Int} (h : ruv l = (r, 0)) : r = 0 := ruvGo_none l 0 0 r h
theorem ruv_cases {l : List Int} (hb : ∀ x ∈ l, 0 ≤ x ∧ x < 256) :
    (ruv l = (0, 0) ∧ ∀ v t, v < 18446744073709551616 → l ≠ uv v ++ t) ∨ ∃ (v : Nat) (t : List Int), l = uv v ++ t ∧ v < 18446744073709551616 ∧ ruv l = ((v : Int), ((uv v).length : Int)) := by
  by_cases hn : (ruv l).2 = 0
  · left
    have h1 : ruv l = ((ruv l).1, 0) := by rw [← hn]
    have h2 := ruv_none h1
    refine ⟨by rw [h1, h2], fun v t hv e => ?_⟩
    rw [e, ruv_uv hv] at hn
    have := uv_pos v
    simp at hn
    exact uv_ne v hn
  · right
    obtain ⟨v, t, h1, h2, h3, h4⟩ := ruv_sound hb (r := (ruv l).1) (n := (ruv l).2) rfl hn
    exact ⟨v, t, h1, h4, by rw [← h2, ← h3]⟩
end Go.Proofs.YtmnlbedgkjnodaaDoor.Uv
namespace Go.Proofs.YtmnlbedgkjnodaaDoor.QB
open Go.RowKit Go.Proofs.YtmnlbedgkjnodaaDoorW.PrintWords Go.Proofs.YtmnlbedgkjnodaaDoorW.PrintLast Go.Proofs.YtmnlbedgkjnodaaDoorW.PrintMore
attribute [local go_sem] max2_int min2_int max_two min_two max_three min_three max_four min_four   -- for this text's walks alone
def errW : Option Int → Value
  | none => .nilIface
  | some c => .iface 0 (.int .i64 c)
theorem errW_none : errW none = .nilIface := rfl
theorem errW_some (c : Int) : errW (some c) = .iface 0 (.int .i64 c) := rfl
theorem info5 : (Tryd.prog.info? 5).map (fun i => (i.zero, i.size, i.bytes)) = some (some (.int .u8 0), 1, 1) := by kernel_rfl
theorem info33 : (Tryd.prog.info? 33).map (fun i => (i.zero, i.size, i.bytes)) = some (some (.agg #[(.int .i64 0), (.int .u64 0), (.int .u64 0)]), 3, 24) := by kernel_rfl
structure S33 where
  f0 : Int
  f1 : Int
  f2 : Int
def z33 : S33 := ⟨(0 : Int), (0 : Int), (0 : Int)⟩
def k33 : Kd S33 := Kd.iso (Kd.pair (Kd.int .i64) (Kd.pair (Kd.int .u64) (Kd.int .u64))) (fun x : S33 => (x.f0, x.f1, x.f2))
theorem k33_open {w : World} {x : S33} {cs : List Value} (h : k33.K w x cs) : cs = [.int .i64 x.f0, .int .u64 x.f1, .int .u64 x.f2] := by
  obtain ⟨_, _, rfl, rfl, ⟨_, _, rfl, rfl, rfl⟩⟩ := h
  exact rfl
theorem k33_mkM (w : World) (base : Nat) (ok : Nat → Prop) (x : S33)  : k33.M w base ok x [.int .i64 x.f0, .int .u64 x.f1, .int .u64 x.f2] := ⟨[.int .i64 x.f0], [.int .u64 x.f1, .int .u64 x.f2], rfl, rfl, ⟨[.int .u64 x.f1], [.int .u64 x.f2], rfl, rfl, rfl⟩⟩
def rd_T33 (xs : List S33) (i : Int) : S33 := xs.getD i.toNat z33
theorem at_T33 {w : World} {A : Option Addr} {n : Nat} {xs : List S33} (h : Kd.C k33 w A n xs) (i : Int) (h0 : 0 ≤ i) (h1 : i < n) : ∃ ad , A = some ad ∧ w.cell? (ad.add (i.toNat * 3)) = some (.int .i64 (rd_T33 xs i).f0) ∧ w.cell? ⟨(ad.add (i.toNat * 3)).block, (ad.add (i.toNat * 3)).off + 1, none⟩ = some (.int .u64 (rd_T33 xs i).f1) ∧ w.cell? ⟨(ad.add (i.toNat * 3)).block, (ad.add (i.toNat * 3)).off + 2, none⟩ = some (.int .u64 (rd_T33 xs i).f2) := by
  obtain ⟨ad, c, e, _, hK, hc0⟩ := Kd.C_get h z33 i h0 h1
  have hc : ∀ j u, c[j]? = some u → w.cell? (ad.add (i.toNat * 3 + j)) = some u := hc0
  obtain rfl := k33_open hK
  exact ⟨ad, e, hc 0 _ rfl, by rw [← add_field _ _ 1 (by omega)]; exact hc 1 _ rfl, by rw [← add_field _ _ 2 (by omega)]; exact hc 2 _ rfl⟩
structure S88 where
  f0 : Int
  f1 : Int
  f2 : Int
  f3 : Int
def z88 : S88 := ⟨(0 : Int), (0 : Int), (0 : Int), (0 : Int)⟩
def k88 : Kd S88 := Kd.iso (Kd.pair (Kd.int .u64) (Kd.pair (Kd.int .i64) (Kd.pair (Kd.int .i64) (Kd.int .i64)))) (fun x : S88 => (x.f0, x.f1, x.f2, x.f3))
theorem k88_open {w : World} {x : S88} {cs : List Value} (h : k88.K w x cs) : cs = [.int .u64 x.f0, .int .i64 x.f1, .int .i64 x.f2, .int .i64 x.f3] := by
  obtain ⟨_, _, rfl, rfl, ⟨_, _, rfl, rfl, ⟨_, _, rfl, rfl, rfl⟩⟩⟩ := h
  exact rfl
theorem k88_mkM (w : World) (base : Nat) (ok : Nat → Prop) (x : S88)  : k88.M w base ok x [.int .u64 x.f0, .int .i64 x.f1, .int .i64 x.f2, .int .i64 x.f3] := ⟨[.int .u64 x.f0], [.int .i64 x.f1, .int .i64 x.f2, .int .i64 x.f3], rfl, rfl, ⟨[.int .i64 x.f1], [.int .i64 x.f2, .int .i64 x.f3], rfl, rfl, ⟨[.int .i64 x.f2], [.int .i64 x.f3], rfl, rfl, rfl⟩⟩⟩
def rd_T88 (xs : List S88) (i : Int) : S88 := xs.getD i.toNat z88
theorem at_T88 {w : World} {A : Option Addr} {n : Nat} {xs : List S88} (h : Kd.C k88 w A n xs) (i : Int) (h0 : 0 ≤ i) (h1 : i < n) : ∃ ad , A = some ad ∧ w.cell? (ad.add (i.toNat * 4)) = some (.int .u64 (rd_T88 xs i).f0) ∧ w.cell? ⟨(ad.add (i.toNat * 4)).block, (ad.add (i.toNat * 4)).off + 1, none⟩ = some (.int .i64 (rd_T88 xs i).f1) ∧ w.cell? ⟨(ad.add (i.toNat * 4)).block, (ad.add (i.toNat * 4)).off + 2, none⟩ = some (.int .i64 (rd_T88 xs i).f2) ∧ w.cell? ⟨(ad.add (i.toNat * 4)).block, (ad.add (i.toNat * 4)).off + 3, none⟩ = some (.int .i64 (rd_T88 xs i).f3) := by
  obtain ⟨ad, c, e, _, hK, hc0⟩ := Kd.C_get h z88 i h0 h1
  have hc : ∀ j u, c[j]? = some u → w.cell? (ad.add (i.toNat * 4 + j)) = some u := hc0
  obtain rfl := k88_open hK
  exact ⟨ad, e, hc 0 _ rfl, by rw [← add_field _ _ 1 (by omega)]; exact hc 1 _ rfl, by rw [← add_field _ _ 2 (by omega)]; exact hc 2 _ rfl, by rw [← add_field _ _ 3 (by omega)]; exact hc 3 _ rfl⟩
end Go.Proofs.YtmnlbedgkjnodaaDoor.QB
