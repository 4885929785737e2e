/- Plain lemmas on layer 8: what checking and encoding of entries come to. No program in sight but the printed Lean functions. -/
import Derived.Test.YtohmbmjneainbaaUvP
import Derived.Test.YtohmbmjneainbaaUvR
import Derived.Test.YtohmbmjneainbaaQBx3
import Derived.Test.YtohmbmjneainbaaQBx6
import Derived.Test.YtohmbmjneainbaaQBx5
import Derived.Test.YtohmbmjneainbaaQBx8
import Derived.Test.YtohmbmjneainbaaQBx2
import Derived.Test.YtohmbmjneainbaaQBx9
import Derived.Test.YtohmbmjneainbaaQBx13
namespace Go.Proofs.Ytohmbmjneainbaa.IxP
open Go.RowKit Go.Proofs.YtohmbmjneainbaaW.PrintWords Go.Proofs.YtohmbmjneainbaaW.PrintLast Go.Proofs.YtohmbmjneainbaaW.PrintMore Go.Proofs.Ytohmbmjneainbaa.QB Go.Proofs.Ytohmbmjneainbaa.Uv Go.Proofs.Ytohmbmjneainbaa.UvP Go.Proofs.Ytohmbmjneainbaa.UvR
set_option linter.unusedVariables false
set_option linter.unusedSimpArgs false

def okEntry (x : S42) : Prop := x.f0.size ≤ maxLen ∧ (Lit.int .i64 x.f1).wf = true ∧ (Lit.int .i64 x.f2).wf = true ∧ (Lit.int .u32 x.f3).wf = true
theorem sum_range {x : S42} (h : okEntry x) : 0 ≤ x.f3 ∧ x.f3 < 4294967296 := by
  have h3 := h.2.2.2
  simp [Lit.wf, IntKind.min, IntKind.max, IntKind.signed, IntKind.bits] at h3
  omega
def toR (x : S42) : S49 := ⟨x.f0, x.f1, x.f2, x.f3⟩
theorem rd_E {l : List S42} {i : Nat} (h : i < l.length) : rd_T42 l (i : Int) = l[i] := by
  unfold rd_T42
  rw [Int.toNat_natCast, List.getD_eq_getElem?_getD, List.getElem?_eq_getElem h]
  rfl
theorem rd_R {l : List S49} {i : Nat} (h : i < l.length) : rd_T49 l (i : Int) = l[i] := by
  unfold rd_T49
  rw [Int.toNat_natCast, List.getD_eq_getElem?_getD, List.getElem?_eq_getElem h]
  rfl
theorem wrap_next {i n : Nat} (h : i < n) (hn : n ≤ 1099511627776) : wrap64 ((i : Int) + 1) = ((i + 1 : Nat) : Int) := by
  unfold wrap64
  omega
theorem size_list (s : ByteArray) : s.toList.length = s.size := by rw [ByteArray.toList_eq]; rfl

/-- Is a number one that an entry may bear? -/
def fit (n : Int) : Prop := 0 ≤ n ∧ n ≤ 2147483647
instance (n : Int) : Decidable (fit n) := by unfold fit; infer_instance
def noId (x : S42) : Prop := x.f0.toList = [] ∨ 16 < x.f0.size
instance (x : S42) : Decidable (noId x) := by unfold noId; infer_instance
/-- What checking tells. -/
def chk : List UInt8 → List S42 → Int
  | _, [] => 0
  | last, x :: t => if noId x then 80 else if fit x.f1 ∧ fit x.f2 then (if Op.bytesLess last x.f0.toList = true then chk x.f0.toList t else 51) else 1
theorem fits_f (n : Int) : index_fits.f n = some (decide (fit n)) := by
  unfold index_fits.f
  by_cases h : 0 ≤ n
  · rw [if_pos h]
    congr 1
    simp [fit, h]
  · rw [if_neg h]
    congr 1
    simp [fit, h]
theorem within_f (n : Int) : thermographref08_within.f n = some (decide (fit n)) := by
  unfold thermographref08_within.f
  by_cases h : n ≥ 0
  · rw [if_pos h]
    congr 1
    have : 0 ≤ n := h
    simp [fit, this]
  · rw [if_neg h]
    congr 1
    have : ¬ 0 ≤ n := h
    simp [fit, this]

theorem index_Check_l0 (l : List S42) (hl : l.length ≤ 1099511627776) : ∀ (d i k : Nat) (last : ByteArray), i + d = l.length → 3 * d < k →
    index_Check.l0 k last l (l.length : Int) (i : Int) = some (chk last.toList (l.drop i)) := by
  intro d
  induction d with
  | zero =>
    intro i k last hi hk
    obtain ⟨k, rfl⟩ : ∃ m, k = m + 1 := ⟨k - 1, by omega⟩
    simp only [index_Check.l0]
    rw [if_neg (by omega), List.drop_eq_nil_of_le (by omega)]
    rfl
  | succ d ih =>
    intro i k last hi hk
    obtain ⟨k, rfl⟩ : ∃ m, k = m + 3 := ⟨k - 3, by omega⟩
    have hlt : i < l.length := by omega
    have hw := wrap_next hlt hl
    have ih' := ih (i + 1) k l[i].f0 (by omega) (by omega)
    rw [List.drop_eq_getElem_cons hlt]
    simp only [index_Check.l0, index_Check.j1, index_Check.j2, chk]
    rw [rd_E hlt, if_pos (by omega), if_pos (by omega), if_pos (by omega), fits_f, fits_f, hw]
    simp only [Option.bind_some]
    rw [ih']
    by_cases h1 : l[i].f0.toList = []
    · rw [if_pos h1, if_pos (show noId l[i] from .inl h1)]
      rfl
    · rw [if_neg h1]
      by_cases h2 : 16 < l[i].f0.size
      · rw [if_pos (show noId l[i] from .inr h2), if_pos (by simp; omega)]
      · rw [if_neg (show ¬ noId l[i] from fun h => h.elim h1 h2), if_neg (by simp; omega)]
        by_cases h3 : fit l[i].f1 <;> by_cases h4 : fit l[i].f2 <;> simp [h3, h4] <;> (split <;> rfl)
theorem index_Check_f {l : List S42} {k : Nat} (hl : l.length ≤ 1099511627776) (hk : 3 * l.length < k) : index_Check.f k l = some (chk [] l) := by
  unfold index_Check.f
  have h := index_Check_l0 l hl l.length 0 k (⟨#[]⟩ : ByteArray) (by omega) hk
  rw [ByteArray.toList_eq] at h
  exact h

theorem less_nil {b : List UInt8} (h : b ≠ []) : Op.bytesLess [] b = true := by
  cases b with
  | nil => exact absurd rfl h
  | cons a t => rfl
/-- The name ahead of place i. -/
def ahead (l : List S42) (i : Nat) : List UInt8 := if i = 0 then [] else ((l[i - 1]?).map fun x => x.f0.toList).getD []
theorem ref_Check_l0 (l : List S42) (hl : l.length ≤ 1099511627776) : ∀ (d i k : Nat), i + d = l.length → 3 * d < k →
    thermographref08_Check.l0 k (l.map toR) (i : Int) = some (chk (ahead l i) (l.drop i)) := by
  intro d
  induction d with
  | zero =>
    intro i k hi hk
    obtain ⟨k, rfl⟩ : ∃ m, k = m + 1 := ⟨k - 1, by omega⟩
    simp only [thermographref08_Check.l0, List.length_map]
    rw [if_neg (by omega), List.drop_eq_nil_of_le (by omega)]
    rfl
  | succ d ih =>
    intro i k hi hk
    obtain ⟨k, rfl⟩ : ∃ m, k = m + 3 := ⟨k - 3, by omega⟩
    have hlt : i < l.length := by omega
    have hw := wrap_next hlt hl
    have ih' := ih (i + 1) k (by omega) (by omega)
    have ea : ahead l (i + 1) = l[i].f0.toList := by
      unfold ahead
      rw [if_neg (by omega), Nat.add_sub_cancel, List.getElem?_eq_getElem hlt]
      rfl
    rw [ea] at ih'
    have hrd : rd_T49 (l.map toR) (i : Int) = toR l[i] := by rw [rd_R (by rw [List.length_map]; exact hlt)]; simp
    rw [List.drop_eq_getElem_cons hlt]
    have c1 : (i : Int) < (l.length : Int) := by omega
    have c2 : (0 : Int) ≤ (i : Int) := by omega
    simp only [thermographref08_Check.l0, thermographref08_Check.j1, thermographref08_Check.j2, chk, List.length_map]
    have e1 : (toR l[i]).f1 = l[i].f1 := rfl
    have e2 : (toR l[i]).f2 = l[i].f2 := rfl
    have e0 : (toR l[i]).f0 = l[i].f0 := rfl
    rw [hrd, if_pos c1, if_pos c2, hw, ih', e0, e1, e2, within_f, within_f]
    simp only [Option.bind_some]
    have hsz := size_list l[i].f0
    by_cases h1 : l[i].f0.toList = []
    · have hz : (l[i].f0.size : Int) < 1 := by rw [h1] at hsz; simp at hsz; omega
      rw [if_pos hz, if_pos (show noId l[i] from .inl h1)]
      rfl
    · have hz : ¬ (l[i].f0.size : Int) < 1 := by
        intro h
        exact h1 (List.eq_nil_of_length_eq_zero (by omega))
      rw [if_neg hz]
      by_cases h2 : 16 < l[i].f0.size
      · rw [if_pos (show noId l[i] from .inr h2), if_pos (by simp; omega)]
      · rw [if_neg (show ¬ noId l[i] from fun h => h.elim h1 h2), if_neg (by simp; omega), if_pos c2, if_pos c1]
        by_cases h3 : fit l[i].f1 <;> by_cases h4 : fit l[i].f2 <;> simp only [h3, h4, decide_true, decide_false, if_true, if_false, Bool.not_true, Bool.not_false, and_self, and_true, and_false, Bool.false_eq_true]
        by_cases hi0 : 0 < i
        · have hw2 : wrap64 ((i : Int) - 1) = ((i - 1 : Nat) : Int) := by unfold wrap64; omega
          have hlt1 : i - 1 < l.length := by omega
          have hrd2 : rd_T49 (l.map toR) ((i - 1 : Nat) : Int) = toR l[i - 1] := by rw [rd_R (by rw [List.length_map]; omega)]; simp
          have e3 : (toR l[i - 1]).f0 = l[i - 1].f0 := rfl
          have ea2 : ahead l i = l[i - 1].f0.toList := by
            unfold ahead
            rw [if_neg (by omega), List.getElem?_eq_getElem hlt1]
            rfl
          rw [if_pos (by omega), if_pos c2, if_pos c1, hw2, if_pos (by omega), if_pos (by omega), hrd2, e3, ea2]
          split <;> rfl
        · have ea2 : ahead l i = [] := if_pos (by omega)
          rw [if_neg (by omega), ea2, if_pos (less_nil h1)]
theorem ref_Check_f {l : List S42} {k : Nat} (hl : l.length ≤ 1099511627776) (hk : 3 * l.length < k) : thermographref08_Check.f k (l.map toR) = some (chk [] l) := by
  unfold thermographref08_Check.f
  exact ref_Check_l0 l hl l.length 0 k (by omega) hk

/-- Where checking finds nothing amiss. -/
def GoodE (x : S42) : Prop := ¬ noId x ∧ fit x.f1 ∧ fit x.f2
theorem chk_cons {x : S42} {t : List S42} {last : List UInt8} (h : chk last (x :: t) = 0) : GoodE x ∧ Op.bytesLess last x.f0.toList = true ∧ chk x.f0.toList t = 0 := by
  simp only [chk] at h
  by_cases h1 : noId x
  · rw [if_pos h1] at h; simp at h
  rw [if_neg h1] at h
  by_cases h2 : fit x.f1 ∧ fit x.f2
  · rw [if_pos h2] at h
    by_cases h3 : Op.bytesLess last x.f0.toList = true
    · rw [if_pos h3] at h
      exact ⟨⟨h1, h2⟩, h3, h⟩
    · rw [if_neg h3] at h; simp at h
  · rw [if_neg h2] at h; simp at h
theorem chk_cons_mk {x : S42} {t : List S42} {last : List UInt8} (h1 : GoodE x) (h2 : Op.bytesLess last x.f0.toList = true) (h3 : chk x.f0.toList t = 0) : chk last (x :: t) = 0 := by
  simp only [chk]
  rw [if_neg h1.1, if_pos h1.2, if_pos h2, h3]
theorem chk_good : ∀ (l : List S42) (last : List UInt8), chk last l = 0 → ∀ x ∈ l, GoodE x
  | [], _, _ => fun x hx => by cases hx
  | y :: t, last, h => by
    obtain ⟨h1, _, h3⟩ := chk_cons h
    intro x hx
    rcases List.mem_cons.1 hx with rfl | hx
    · exact h1
    · exact chk_good t _ h3 x hx
theorem chk_take : ∀ (l : List S42) (last : List UInt8) (n : Nat), chk last l = 0 → chk last (l.take n) = 0
  | [], _, n, _ => by simp [chk]
  | y :: t, last, 0, _ => by simp [chk]
  | y :: t, last, n + 1, h => by
    obtain ⟨h1, h2, h3⟩ := chk_cons h
    exact chk_cons_mk h1 h2 (chk_take t _ n h3)
theorem good_ne {x : S42} (h : GoodE x) : x.f0.toList ≠ [] := fun e => h.1 (.inl e)
theorem chk_any : ∀ (l : List S42) (last : List UInt8), chk last l = 0 → chk [] l = 0
  | [], _, _ => rfl
  | y :: t, last, h => by
    obtain ⟨h1, h2, h3⟩ := chk_cons h
    exact chk_cons_mk h1 (less_nil (good_ne h1)) h3
theorem chk_drop : ∀ (l : List S42) (last : List UInt8) (n : Nat), chk last l = 0 → chk [] (l.drop n) = 0
  | l, last, 0, h => chk_any l last h
  | [], _, n + 1, _ => by simp [chk]
  | y :: t, last, n + 1, h => chk_drop t _ n (chk_cons h).2.2

/-- The bytes of a text, of a sum, of an entry. -/
def text (s : ByteArray) : List Int := uv s.size ++ bytesOf s
def sum4 (n : Int) : List Int := [n / 16777216 % 256, n / 65536 % 256, n / 256 % 256, n % 256]
def enc1 (x : S42) : List Int := text x.f0 ++ uv x.f1.toNat ++ uv x.f2.toNat ++ sum4 x.f3
def encL (l : List S42) : List Int := (l.map enc1).flatten
def summ : Nat → Nat → List S42 → List Int
  | _, _, [] => []
  | i, n, x :: t => (if i % 4 = 0 then text x.f0 ++ uv n else []) ++ summ (i + 1) (n + (enc1 x).length) t
theorem encL_cons (x : S42) (l : List S42) : encL (x :: l) = enc1 x ++ encL l := rfl
theorem encL_append (a b : List S42) : encL (a ++ b) = encL a ++ encL b := by simp [encL]
theorem text_length {s : ByteArray} (h : s.size ≤ 16) : (text s).length ≤ 17 := by
  unfold text
  rw [List.length_append, bytesOf_length, uv_small (by omega)]
  simp
  omega
theorem uv_len5 {n : Int} (h : fit n) : (uv n.toNat).length ≤ 5 := uv_length_le n.toNat 5 (by unfold fit at h; omega) (by omega)
theorem good_size {x : S42} (h : GoodE x) : x.f0.size ≤ 16 := by
  have := h.1
  unfold noId at this
  omega
theorem enc1_length {x : S42} (h : GoodE x) : (enc1 x).length ≤ 31 := by
  have h1 := text_length (good_size h)
  have h2 := uv_len5 h.2.1
  have h3 := uv_len5 h.2.2
  simp only [enc1, sum4, List.length_append, List.length_cons, List.length_nil]
  omega
theorem encL_length : ∀ {l : List S42}, (∀ x ∈ l, GoodE x) → (encL l).length ≤ 31 * l.length
  | [], _ => by simp [encL]
  | x :: t, h => by
    have h1 := enc1_length (h x List.mem_cons_self)
    have h2 := encL_length (l := t) (fun y hy => h y (List.mem_cons_of_mem _ hy))
    rw [encL_cons, List.length_append, List.length_cons]
    omega
theorem number_f {n : Int} {k : Nat} {l : List Int} (hn : 0 ≤ n ∧ n < 9223372036854775808) (hk : 10 ≤ k) (hk2 : k ≤ 1000000) (hl : l.length ≤ 140737480000000) : index_number.f k l n = some (l ++ uv n.toNat) := by
  obtain ⟨m, rfl⟩ : ∃ m : Nat, n = (m : Int) := ⟨n.toNat, by omega⟩
  have e : IntKind.u64.wrap (m : Int) = (m : Int) := by rw [IntKind.wrap_u64]; omega
  unfold index_number.f
  rw [e, bits_Uvarint_f (by omega) hk hk2 hl]
  rfl
theorem text_f {s : ByteArray} {k : Nat} {l : List Int} (hs : s.size ≤ 16) (hk : 10 ≤ k) (hk2 : k ≤ 1000000) (hl : l.length ≤ 1099511627776) : index_text.f k l s = some (l ++ text s) := by
  unfold index_text.f
  rw [number_f (by omega) hk hk2 (by omega)]
  simp only [Option.bind_some, Int.toNat_natCast]
  have h1 := text_length hs
  have h2 := bytesOf_length s
  unfold text at h1 ⊢
  rw [List.length_append] at h1
  rw [if_pos (by rw [List.length_append]; omega), List.append_assoc]
theorem shr_u32 (n : Int) (s : Nat) (hs : s ≤ 32) : shr .u32 n (s : Int) = n / 2 ^ s := by
  unfold shr
  rw [Int.toNat_natCast, show IntKind.bits .u32 = 32 from rfl, Nat.min_eq_left hs]
theorem sum_f {n : Int} {k : Nat} {l : List Int} (hk : 5 ≤ k) (hl : l.length ≤ 1099511627776) : index_sum.f k l n = some (l ++ sum4 n) := by
  obtain ⟨k, rfl⟩ : ∃ m, k = m + 5 := ⟨k - 5, by omega⟩
  have a1 : IntKind.u64.wrap 24 = ((24 : Nat) : Int) := by rw [IntKind.wrap_u64]; omega
  have a2 : IntKind.u64.wrap 16 = ((16 : Nat) : Int) := by rw [IntKind.wrap_u64]; omega
  have a3 : IntKind.u64.wrap 8 = ((8 : Nat) : Int) := by rw [IntKind.wrap_u64]; omega
  have a4 : IntKind.u64.wrap 0 = ((0 : Nat) : Int) := by rw [IntKind.wrap_u64]; omega
  have b1 : wrap64 (24 - 8) = 16 := by unfold wrap64; omega
  have b2 : wrap64 (16 - 8) = 8 := by unfold wrap64; omega
  have b3 : wrap64 (8 - 8) = 0 := by unfold wrap64; omega
  have b4 : wrap64 (0 - 8) = -8 := by unfold wrap64; omega
  unfold index_sum.f
  simp only [index_sum.l0, a1, a2, a3, a4, b1, b2, b3, b4, shr_u32 n _ (show 24 ≤ 32 by omega), shr_u32 n _ (show 16 ≤ 32 by omega), shr_u32 n _ (show 8 ≤ 32 by omega), shr_u32 n _ (show 0 ≤ 32 by omega)]
  rw [if_pos (by omega), if_pos (by omega), if_pos (by omega), if_pos (by omega), if_pos (by omega), if_pos (by simp; omega), if_pos (by omega), if_pos (by omega), if_pos (by simp; omega), if_pos (by omega), if_pos (by omega), if_pos (by simp; omega), if_neg (by omega)]
  simp [sum4]

theorem uv_len10 {n : Nat} (h : n ≤ 1099511627776) : (uv n).length ≤ 10 := uv_length10 (by omega)
theorem index_Encode_l0 (l : List S42) (hl : l.length ≤ 100000) (hg : ∀ x ∈ l, GoodE x) : ∀ (d i k : Nat) (a s : List Int), i + d = l.length → 2 * d + 12 < k → k ≤ 1000000 → a.length ≤ 31 * i → s.length ≤ 31 * i →
    index_Encode.l0 k a s l (l.length : Int) (i : Int) = some (a ++ encL (l.drop i), s ++ summ i a.length (l.drop i), 0) := by
  intro d
  induction d with
  | zero =>
    intro i k a s hi hk hk2 ha hs
    obtain ⟨k, rfl⟩ : ∃ m, k = m + 1 := ⟨k - 1, by omega⟩
    simp only [index_Encode.l0]
    rw [if_neg (by omega), List.drop_eq_nil_of_le (by omega)]
    simp [encL, summ]
  | succ d ih =>
    intro i k a s hi hk hk2 ha hs
    obtain ⟨k, rfl⟩ : ∃ m, k = m + 2 := ⟨k - 2, by omega⟩
    have hlt : i < l.length := by omega
    have hw := wrap_next hlt (by omega)
    obtain ⟨x, hx⟩ : ∃ x, l[i] = x := ⟨_, rfl⟩
    have hgx : GoodE x := hx ▸ hg _ (List.getElem_mem hlt)
    have z1 := good_size hgx
    have z2 := text_length z1
    have z3 := uv_len5 hgx.2.1
    have z4 := uv_len5 hgx.2.2
    have f1 := hgx.2.1
    have f2 := hgx.2.2
    have z5 := enc1_length hgx
    have z6 := uv_len10 (n := a.length) (by omega)
    unfold fit at f1 f2
    rw [List.drop_eq_getElem_cons hlt, hx, encL_cons]
    simp only [index_Encode.l0, index_Encode.j1, summ]
    have c1 : (i : Int) < (l.length : Int) := by omega
    have c2 : (0 : Int) ≤ (i : Int) := by omega
    have c3 : Int.tmod (i : Int) 4 = 0 ↔ i % 4 = 0 := by rw [Int.tmod_eq_emod_of_nonneg c2]; omega
    rw [rd_E hlt, hx, hw, if_pos c1, if_pos c2, if_pos c1]
    have q1 := text_f (k := k) (l := a) z1 (by omega) (by omega) (by omega)
    have q2 := number_f (k := k) (n := x.f1) (l := a ++ text x.f0) (by omega) (by omega) (by omega) (by rw [List.length_append]; omega)
    have q3 := number_f (k := k) (n := x.f2) (l := a ++ text x.f0 ++ uv x.f1.toNat) (by omega) (by omega) (by omega) (by rw [List.length_append, List.length_append]; omega)
    have q4 := sum_f (k := k) (n := x.f3) (l := a ++ text x.f0 ++ uv x.f1.toNat ++ uv x.f2.toNat) (by omega) (by rw [List.length_append, List.length_append, List.length_append]; omega)
    have e1 : a ++ text x.f0 ++ uv x.f1.toNat ++ uv x.f2.toNat ++ sum4 x.f3 = a ++ enc1 x := by simp [enc1]
    rw [e1] at q4
    have hae : (a ++ enc1 x).length = a.length + (enc1 x).length := List.length_append
    by_cases h4 : i % 4 = 0
    · have q5 := text_f (k := k + 1) (l := s) z1 (by omega) (by omega) (by omega)
      have q6 := number_f (k := k + 1) (n := (a.length : Int)) (l := s ++ text x.f0) (by omega) (by omega) (by omega) (by rw [List.length_append]; omega)
      rw [Int.toNat_natCast] at q6
      have q7 := ih (i + 1) k (a ++ enc1 x) (s ++ text x.f0 ++ uv a.length) (by omega) (by omega) (by omega) (by omega) (by rw [List.length_append, List.length_append]; omega)
      rw [if_pos (c3.2 h4), if_pos h4]
      simp only [q1, q2, q3, q4, q5, q6, q7, Option.bind_some, hae]
      simp
    · have q7 := ih (i + 1) k (a ++ enc1 x) s (by omega) (by omega) (by omega) (by omega) (by omega)
      rw [if_neg (fun h => h4 (c3.1 h)), if_neg h4]
      simp only [q1, q2, q3, q4, q7, Option.bind_some, hae]
      simp
theorem index_Encode_f {l : List S42} {k : Nat} (hl : l.length ≤ 100000) (hk : 3 * l.length + 12 < k) (hk2 : k ≤ 1000000) :
    index_Encode.f k l = some (if chk [] l = 0 then (encL l, summ 0 0 l, 0) else ([], [], chk [] l)) := by
  unfold index_Encode.f
  rw [index_Check_f (by omega) (by omega)]
  simp only [Option.bind_some]
  by_cases h : chk [] l = 0
  · rw [if_pos h, if_pos h]
    have := index_Encode_l0 l hl (chk_good l _ h) l.length 0 k [] [] (by omega) (by omega) hk2 (by simp) (by simp)
    simpa using this
  · rw [if_neg h, if_neg h]

theorem heavy_l0 (l : List S42) (hl : l.length ≤ 16384) : ∀ (d i k n : Nat), i + d = l.length → d < k → l.length ≤ n → n ≤ 2000000 →
    ∃ b, thermographlaw08_heavy.l0 k l (n : Int) (i : Int) = some b := by
  intro d
  induction d with
  | zero =>
    intro i k n hi hk hn hn2
    obtain ⟨k, rfl⟩ : ∃ m, k = m + 1 := ⟨k - 1, by omega⟩
    simp only [thermographlaw08_heavy.l0]
    rw [if_neg (by omega)]
    exact ⟨_, rfl⟩
  | succ d ih =>
    intro i k n hi hk hn hn2
    obtain ⟨k, rfl⟩ : ∃ m, k = m + 1 := ⟨k - 1, by omega⟩
    have hlt : i < l.length := by omega
    have hw := wrap_next hlt (by omega)
    simp only [thermographlaw08_heavy.l0]
    rw [if_pos (by omega)]
    by_cases h : (n : Int) ≤ 16384
    · have e : wrap64 ((n : Int) + mn ((rd_T42 l (i : Int)).f0.size : Int) 1048576) = ((n + min (rd_T42 l (i : Int)).f0.size 1048576 : Nat) : Int) := by
        unfold wrap64 mn
        split <;> omega
      rw [if_pos h, if_pos (by omega), hw, e]
      exact ih (i + 1) k _ (by omega) (by omega) (by omega) (by omega)
    · rw [if_neg h]
      exact ⟨_, rfl⟩
theorem heavy_f (l : List S42) {k : Nat} (hk : 16384 < k) : ∃ b, thermographlaw08_heavy.f k l = some b ∧ (b = false → l.length ≤ 16384) := by
  unfold thermographlaw08_heavy.f
  by_cases hl : l.length ≤ 16384
  · obtain ⟨b, hb⟩ := heavy_l0 l hl l.length 0 k l.length (by omega) (by omega) (Nat.le_refl _) (by omega)
    exact ⟨b, hb, fun _ => hl⟩
  · obtain ⟨k, rfl⟩ : ∃ m, k = m + 1 := ⟨k - 1, by omega⟩
    refine ⟨true, ?_, fun h => by cases h⟩
    simp only [thermographlaw08_heavy.l0]
    rw [if_pos (by omega), if_neg (by omega)]
    congr 1
    simp
    omega
theorem theirs_l0 (l : List S42) (hl : l.length ≤ 1000000) : ∀ (d i k : Nat), i + d = l.length → d < k → thermographlaw08_theirs.l0 k l ((l.take i).map toR) (i : Int) = some (l.map toR) := by
  intro d
  induction d with
  | zero =>
    intro i k hi hk
    obtain ⟨k, rfl⟩ : ∃ m, k = m + 1 := ⟨k - 1, by omega⟩
    simp only [thermographlaw08_theirs.l0]
    rw [if_neg (by omega), List.take_of_length_le (by omega)]
  | succ d ih =>
    intro i k hi hk
    obtain ⟨k, rfl⟩ : ∃ m, k = m + 1 := ⟨k - 1, by omega⟩
    have hlt : i < l.length := by omega
    have hw := wrap_next hlt (by omega)
    have := ih (i + 1) k (by omega) (by omega)
    rw [List.take_succ_eq_append_getElem hlt, List.map_append] at this
    simp only [thermographlaw08_theirs.l0]
    rw [if_pos (by omega), if_pos (by omega), if_pos (by rw [List.length_map, List.length_take]; omega), hw, rd_E hlt]
    exact this
theorem theirs_f {l : List S42} {k : Nat} (hl : l.length ≤ 1000000) (hk : l.length < k) : thermographlaw08_theirs.f k l = some (l.map toR) := by
  unfold thermographlaw08_theirs.f
  exact theirs_l0 l hl l.length 0 k (by omega) hk
theorem same_l0 (l : List S42) (hl : l.length ≤ 1000000) : ∀ (d i k : Nat), i + d = l.length → d < k → thermographlaw08_same.l0 k l (l.map toR) (i : Int) = some true := by
  intro d
  induction d with
  | zero =>
    intro i k hi hk
    obtain ⟨k, rfl⟩ : ∃ m, k = m + 1 := ⟨k - 1, by omega⟩
    simp only [thermographlaw08_same.l0]
    rw [if_neg (by omega)]
  | succ d ih =>
    intro i k hi hk
    obtain ⟨k, rfl⟩ : ∃ m, k = m + 1 := ⟨k - 1, by omega⟩
    have hlt : i < l.length := by omega
    have hw := wrap_next hlt (by omega)
    have hrd : rd_T49 (l.map toR) (i : Int) = toR l[i] := by rw [rd_R (by rw [List.length_map]; exact hlt)]; simp
    simp only [thermographlaw08_same.l0]
    rw [if_pos (by omega), if_pos (by omega), if_pos (by rw [List.length_map]; omega), hw, rd_E hlt, hrd, if_neg]
    · exact ih (i + 1) k (by omega) (by omega)
    · simp [toR]
theorem same_f {l : List S42} {k : Nat} (hl : l.length ≤ 1000000) (hk : l.length < k) : thermographlaw08_same.f k l (l.map toR) = some true := by
  unfold thermographlaw08_same.f
  rw [if_pos (by rw [List.length_map])]
  exact same_l0 l hl l.length 0 k (by omega) hk
end Go.Proofs.Ytohmbmjneainbaa.IxP
