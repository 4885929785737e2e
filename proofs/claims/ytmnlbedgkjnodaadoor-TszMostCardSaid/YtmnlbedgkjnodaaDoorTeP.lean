/- Which lists of points may be, and the bits of a list, in plain words. -/
import Derived.Test.YtmnlbedgkjnodaaDoorTzP
import Derived.Test.YtmnlbedgkjnodaaDoorUv
import Derived.Test.YtmnlbedgkjnodaaDoorQBx0
namespace Go.Proofs.YtmnlbedgkjnodaaDoor.TeP
open Go.RowKit Go.Proofs.YtmnlbedgkjnodaaDoorW.PrintWords Go.Proofs.YtmnlbedgkjnodaaDoorW.PrintLast Go.Proofs.YtmnlbedgkjnodaaDoorW.PrintMore Go.Proofs.YtmnlbedgkjnodaaDoor.QB Go.Proofs.YtmnlbedgkjnodaaDoor.Bt Go.Proofs.YtmnlbedgkjnodaaDoor.TzP Go.Proofs.YtmnlbedgkjnodaaDoor.Uv
set_option linter.unusedVariables false
set_option linter.unusedSimpArgs false

abbrev Pt := S33
def okPt (p : Pt) : Prop := (-9223372036854775808 ≤ p.f0 ∧ p.f0 < 9223372036854775808) ∧ (0 ≤ p.f1 ∧ p.f1 < 18446744073709551616) ∧ (0 ≤ p.f2 ∧ p.f2 < 18446744073709551616)
instance (p : Pt) : Decidable (okPt p) := by unfold okPt; infer_instance
def OkL (l : List Pt) : Prop := ∀ p ∈ l, okPt p
/-- What a check of points in their order tells. -/
def chk : Int → List Pt → Int
  | _, [] => 0
  | last, p :: t => if p.f0 < 0 ∨ 1099511627776 < p.f0 then 1 else if p.f0 ≤ last then 51 else chk p.f0 t
def checkF (l : List Pt) : Int := if 512 < l.length then 52 else chk (-1) l
theorem chk_cases : ∀ (l : List Pt) (a : Int), chk a l = 0 ∨ chk a l = 1 ∨ chk a l = 51
  | [], _ => .inl rfl
  | p :: t, a => by
    unfold chk
    split
    · exact .inr (.inl rfl)
    · split
      · exact .inr (.inr rfl)
      · exact chk_cases t p.f0
theorem checkF_cases (l : List Pt) : checkF l = 0 ∨ checkF l = 1 ∨ checkF l = 51 ∨ checkF l = 52 := by
  unfold checkF
  split
  · exact .inr (.inr (.inr rfl))
  · rcases chk_cases l (-1) with h | h | h <;> simp [h]
/-- A list that may be: its times rise. -/
theorem chk_zero : ∀ (l : List Pt) (a : Int), chk a l = 0 → (∀ i (h : i < l.length), 0 ≤ l[i].f0 ∧ l[i].f0 ≤ 1099511627776 ∧ a < l[i].f0) ∧ ∀ i (h : i + 1 < l.length), l[i].f0 < l[i + 1].f0
  | [], _, _ => ⟨fun i h => by simp at h, fun i h => by simp at h⟩
  | p :: t, a, h => by
    unfold chk at h
    split at h
    · cases h
    · split at h
      · cases h
      · rename_i h1 h2
        obtain ⟨h3, h4⟩ := chk_zero t p.f0 h
        refine ⟨fun i hi => ?_, fun i hi => ?_⟩
        · cases i with
          | zero => simp only [List.getElem_cons_zero]; omega
          | succ i =>
            have := h3 i (by simpa using hi)
            simp only [List.getElem_cons_succ]
            omega
        · cases i with
          | zero =>
            have := h3 0 (by simpa using hi)
            simp only [List.getElem_cons_zero, List.getElem_cons_succ]
            omega
          | succ i =>
            have := h4 i (by simpa using hi)
            simpa using this
theorem checkF_zero {l : List Pt} (h : checkF l = 0) : l.length ≤ 512 ∧ (∀ i (h : i < l.length), 0 ≤ l[i].f0 ∧ l[i].f0 ≤ 1099511627776) ∧ ∀ i (h : i + 1 < l.length), l[i].f0 < l[i + 1].f0 := by
  unfold checkF at h
  split at h
  · cases h
  · rename_i h1
    obtain ⟨h2, h3⟩ := chk_zero l (-1) h
    exact ⟨by omega, fun i hi => ⟨(h2 i hi).1, (h2 i hi).2.1⟩, h3⟩
theorem chk_take : ∀ (l : List Pt) (a : Int) (n : Nat), chk a l = 0 → chk a (l.take n) = 0
  | [], _, n, _ => by simp [chk]
  | p :: t, a, 0, h => by simp [chk]
  | p :: t, a, n + 1, h => by
    unfold chk at h
    split at h
    · cases h
    · split at h
      · cases h
      · rename_i h1 h2
        rw [List.take_succ_cons]
        unfold chk
        rw [if_neg h1, if_neg h2]
        exact chk_take t p.f0 n h
theorem checkF_take {l : List Pt} (h : checkF l = 0) (n : Nat) : checkF (l.take n) = 0 := by
  have h1 := (checkF_zero h).1
  unfold checkF at h ⊢
  rw [if_neg (by omega)] at h
  rw [if_neg (by rw [List.length_take]; omega)]
  exact chk_take l (-1) n h

/-- Between two points: the distance, and both windows. -/
abbrev St := Int × Win × Win
def st0 : St := (0, none, none)
def zp : Pt := ⟨0, 0, 0⟩
def step (q p : Pt) (s : St) : List Int × St :=
  let v := valueB (p.f1.toNat ^^^ q.f1.toNat) s.2.1
  let u := valueB (p.f2.toNat ^^^ q.f2.toNat) s.2.2
  (timeB (p.f0 - q.f0 - s.1) ++ v.1 ++ u.1, (p.f0 - q.f0, v.2, u.2))
/-- The first point. -/
def first (p : Pt) : List Int := bitsOf p.f0.toNat 64 ++ bitsOf p.f1.toNat 64 ++ bitsOf p.f2.toNat 64
/-- The bits of the first i points, and what stands behind them. -/
def goB (l : List Pt) : Nat → List Int × St
  | 0 => ([], st0)
  | i + 1 => if i = 0 then (first (l.getD 0 zp), st0) else
      let r := goB l i
      let s := step (l.getD (i - 1) zp) (l.getD i zp) r.2
      (r.1 ++ s.1, s.2)
def bitsT (l : List Pt) : List Int := (goB l l.length).1
theorem goB_one (l : List Pt) : goB l 1 = (first (l.getD 0 zp), st0) := by rw [goB, if_pos rfl]
theorem goB_succ (l : List Pt) (j : Nat) : goB l (j + 2) = ((goB l (j + 1)).1 ++ (step (l.getD j zp) (l.getD (j + 1) zp) (goB l (j + 1)).2).1, (step (l.getD j zp) (l.getD (j + 1) zp) (goB l (j + 1)).2).2) := by
  rw [show j + 2 = (j + 1) + 1 from rfl, goB, if_neg (by omega)]
  simp
theorem step_isBits (q p : Pt) (s : St) : IsBits (step q p s).1 := ((timeB_isBits _).append (valueB_isBits _ _)).append (valueB_isBits _ _)
theorem step_length (q p : Pt) (s : St) : 3 ≤ (step q p s).1.length ∧ (step q p s).1.length ≤ 222 := by
  have h1 := timeB_length (p.f0 - q.f0 - s.1)
  have h2 := valueB_length (p.f1.toNat ^^^ q.f1.toNat) s.2.1
  have h3 := valueB_length (p.f2.toNat ^^^ q.f2.toNat) s.2.2
  show 3 ≤ (timeB _ ++ (valueB _ _).1 ++ (valueB _ _).1).length ∧ (timeB _ ++ (valueB _ _).1 ++ (valueB _ _).1).length ≤ 222
  rw [List.length_append, List.length_append]
  omega
theorem first_isBits (p : Pt) : IsBits (first p) := ((bitsOf_isBits _ _).append (bitsOf_isBits _ _)).append (bitsOf_isBits _ _)
theorem first_length (p : Pt) : (first p).length = 192 := by unfold first; simp [bitsOf_length]
theorem goB_isBits (l : List Pt) : ∀ i, IsBits (goB l i).1
  | 0 => fun x hx => by simp [goB] at hx
  | 1 => by rw [goB_one]; exact first_isBits _
  | j + 2 => by rw [goB_succ]; exact (goB_isBits l (j + 1)).append (step_isBits _ _ _)
theorem goB_length (l : List Pt) : ∀ i, (goB l i).1.length ≤ 222 * i
  | 0 => by simp [goB]
  | 1 => by rw [goB_one]; simp [first_length]
  | j + 2 => by
    rw [goB_succ]
    have h1 := goB_length l (j + 1)
    have h2 := (step_length (l.getD j zp) (l.getD (j + 1) zp) (goB l (j + 1)).2).2
    simp only [List.length_append]
    omega
theorem goB_zero_st (l : List Pt) : (goB l 0).2 = st0 := rfl
theorem getD_ok {l : List Pt} (h : OkL l) (i : Nat) : okPt (l.getD i zp) := by
  rw [List.getD_eq_getElem?_getD]
  by_cases hi : i < l.length
  · rw [List.getElem?_eq_getElem hi]
    exact h _ (List.getElem_mem hi)
  · rw [List.getElem?_eq_none (by omega)]
    exact ⟨by decide, by decide, by decide⟩
theorem xor_lt {a b : Int} (ha : 0 ≤ a ∧ a < 18446744073709551616) (hb : 0 ≤ b ∧ b < 18446744073709551616) : a.toNat ^^^ b.toNat < 18446744073709551616 :=
  Nat.xor_lt_two_pow (n := 64) (by omega) (by omega)
theorem goB_ok {l : List Pt} (h : OkL l) : ∀ i, (goB l i).2.2.1.Ok ∧ (goB l i).2.2.2.Ok
  | 0 => ⟨Win.ok_none, Win.ok_none⟩
  | 1 => by rw [goB_one]; exact ⟨Win.ok_none, Win.ok_none⟩
  | j + 2 => by
    rw [goB_succ]
    obtain ⟨h1, h2⟩ := goB_ok h (j + 1)
    have a := getD_ok h j
    have b := getD_ok h (j + 1)
    exact ⟨valueB_ok (xor_lt b.2.1 a.2.1) h1, valueB_ok (xor_lt b.2.2 a.2.2) h2⟩
theorem goB_dist {l : List Pt} (h : checkF l = 0) : ∀ i, i ≤ l.length → -1099511627776 ≤ (goB l i).2.1 ∧ (goB l i).2.1 ≤ 1099511627776
  | 0, _ => by simp [goB, st0]
  | 1, _ => by rw [goB_one]; simp [st0]
  | j + 2, hi => by
    rw [goB_succ]
    obtain ⟨_, h2, _⟩ := checkF_zero h
    have a := h2 j (by omega)
    have b := h2 (j + 1) (by omega)
    show -1099511627776 ≤ (l.getD (j + 1) zp).f0 - (l.getD j zp).f0 ∧ _ ≤ _
    rw [List.getD_eq_getElem?_getD, List.getElem?_eq_getElem (by omega), List.getD_eq_getElem?_getD, List.getElem?_eq_getElem (by omega)]
    simp only [Option.getD_some]
    show -1099511627776 ≤ l[j + 1].f0 - l[j].f0 ∧ l[j + 1].f0 - l[j].f0 ≤ 1099511627776
    omega
/-- The bytes of a list. -/
def encB (l : List Pt) : List Int := uv l.length ++ pk (bitsT l)
def encT (l : List Pt) : List Int × Int := if checkF l = 0 then (encB l, 0) else ([], checkF l)
end Go.Proofs.YtmnlbedgkjnodaaDoor.TeP
