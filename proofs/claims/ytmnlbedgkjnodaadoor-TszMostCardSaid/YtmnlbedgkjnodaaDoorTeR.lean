/- Plain lemmas: the document's check is the program's; how long a list's bytes are. The law TszMost. -/
import Derived.Test.YtmnlbedgkjnodaaDoorTeQ
import Derived.Test.YtmnlbedgkjnodaaDoorTyP
import Derived.Test.YtmnlbedgkjnodaaDoorQBx6
import Derived.Test.YtmnlbedgkjnodaaDoorQBx7
namespace Go.Proofs.YtmnlbedgkjnodaaDoor.TeR
open Go.RowKit Go.Proofs.YtmnlbedgkjnodaaDoorW.PrintWords Go.Proofs.YtmnlbedgkjnodaaDoorW.PrintLast Go.Proofs.YtmnlbedgkjnodaaDoorW.PrintMore Go.Proofs.YtmnlbedgkjnodaaDoor.QB Go.Proofs.YtmnlbedgkjnodaaDoor.Bt Go.Proofs.YtmnlbedgkjnodaaDoor.Uv Go.Proofs.YtmnlbedgkjnodaaDoor.TzP Go.Proofs.YtmnlbedgkjnodaaDoor.TeP Go.Proofs.YtmnlbedgkjnodaaDoor.TeW
set_option linter.unusedVariables false
set_option linter.unusedSimpArgs false

def prevT (l : List Pt) (i : Nat) : Int := if i = 0 then -1 else (l.getD (i - 1) zp).f0
theorem ref_check_l0 (l : List Pt) (hl : l.length ≤ 1000000) : ∀ (d i k : Nat), i + d = l.length → 2 * d < k → thermographref05_Check.l0 k l (i : Int) = some (chk (prevT l i) (l.drop i)) := by
  intro d
  induction d with
  | zero =>
    intro i k hi hk
    obtain ⟨k, rfl⟩ : ∃ m, k = m + 1 := ⟨k - 1, by omega⟩
    simp only [thermographref05_Check.l0]
    rw [if_neg (by omega), List.drop_eq_nil_of_le (by omega)]
    rfl
  | succ d ih =>
    intro i k hi hk
    obtain ⟨k, rfl⟩ : ∃ m, k = m + 2 := ⟨k - 2, by omega⟩
    have hlt : i < l.length := by omega
    simp only [thermographref05_Check.l0]
    rw [if_pos (by omega), if_pos (by omega), rdT, getD_at hlt, List.drop_eq_getElem_cons hlt]
    unfold chk
    have hw : wrap64 ((i : Int) + 1) = ((i + 1 : Nat) : Int) := by unfold wrap64; omega
    have hn : prevT l (i + 1) = l[i].f0 := by
      unfold prevT
      rw [if_neg (by omega), Nat.add_sub_cancel, getD_at hlt]
    by_cases h1 : l[i].f0 < 0
    · rw [if_pos h1, if_pos (.inl h1)]
      simp only [thermographref05_Check.j1]
      rfl
    · rw [if_neg h1]
      by_cases h2 : 1099511627776 < l[i].f0
      · rw [if_pos (.inr h2)]
        simp only [thermographref05_Check.j1]
        rw [if_pos (decide_eq_true h2)]
      · rw [if_neg (by omega)]
        simp only [thermographref05_Check.j1]
        rw [if_neg (by simpa using h2)]
        have hih := ih (i + 1) k (by omega) (by omega)
        rw [hn] at hih
        rcases Nat.eq_zero_or_pos i with h0 | h0
        · subst h0
          rw [if_neg (by omega), hw, hih, if_neg (by unfold prevT; rw [if_pos rfl]; omega)]
        · have hm : wrap64 ((i : Int) - 1) = ((i - 1 : Nat) : Int) := by unfold wrap64; omega
          have hp : prevT l i = (l.getD (i - 1) zp).f0 := by unfold prevT; rw [if_neg (by omega)]
          rw [if_pos (by omega), if_pos (by omega), if_pos (by omega), hm, if_pos (by omega), if_pos (by omega), rdT, rdT, getD_at hlt, hp]
          by_cases h3 : l[i].f0 ≤ (l.getD (i - 1) zp).f0
          · rw [if_pos h3, if_pos h3]
          · rw [if_neg h3, if_neg h3, hw]
            exact hih
theorem ref_check_f {l : List Pt} (hl : l.length ≤ 1000000) {k : Nat} (hk : 2 * l.length < k) : thermographref05_Check.f k l = some (checkF l) := by
  unfold thermographref05_Check.f checkF
  by_cases h : 512 < l.length
  · rw [if_pos (by omega), if_pos h]
  · rw [if_neg (by omega), if_neg h]
    exact ref_check_l0 l hl l.length 0 k (by omega) hk
theorem encT_snd (l : List Pt) : (encT l).2 = checkF l := by
  unfold encT
  by_cases h : checkF l = 0
  · rw [if_pos h, h]
  · rw [if_neg h]
theorem encT_ok {l : List Pt} (h : checkF l = 0) : encT l = (encB l, 0) := by unfold encT; rw [if_pos h]
theorem encT_bad {l : List Pt} (h : checkF l ≠ 0) : encT l = ([], checkF l) := by unfold encT; rw [if_neg h]
/-- How many bits. -/
theorem goB_len (l : List Pt) : ∀ j, 192 + 3 * j ≤ (goB l (j + 1)).1.length ∧ (goB l (j + 1)).1.length ≤ 192 + 222 * j
  | 0 => by rw [goB_one]; simp [first_length]
  | j + 1 => by
    have h1 := goB_len l j
    have h2 := step_length (l.getD j zp) (l.getD (j + 1) zp) (goB l (j + 1)).2
    rw [goB_succ]
    simp only [List.length_append]
    omega
theorem bitsT_len {l : List Pt} (h : 0 < l.length) : 192 + 3 * (l.length - 1) ≤ (bitsT l).length ∧ (bitsT l).length ≤ 192 + 222 * (l.length - 1) := by
  have := goB_len l (l.length - 1)
  unfold bitsT
  rwa [show l.length - 1 + 1 = l.length from by omega] at this
theorem bitsT_nil : bitsT [] = [] := rfl
theorem encB_len (l : List Pt) (hn : l.length ≤ 512) : 1 ≤ (encB l).length ∧ (encB l).length ≤ 26 + 28 * (l.length - 1) := by
  have h1 := uv_length_le l.length 2 (by omega) (by omega)
  have h2 := uv_pos l.length
  unfold encB
  rw [List.length_append, pk_length]
  rcases Nat.eq_zero_or_pos l.length with h | h
  · have e : l = [] := List.eq_nil_of_length_eq_zero h
    subst e
    have h3 : (uv 0).length ≤ 2 := uv_length_le 0 2 (by omega) (by omega)
    have h4 := uv_pos 0
    show 1 ≤ (uv 0).length + (0 + 7) / 8 ∧ (uv 0).length + (0 + 7) / 8 ≤ 26 + 28 * (0 - 1)
    omega
  · have := bitsT_len h
    omega
/-- The law TszMost. -/
theorem TszMost_f {l : List Pt} (hok : OkL l) : thermographlaw05_TszMost.f 10000 l = some true := by
  unfold thermographlaw05_TszMost.f
  by_cases hb : (l.length : Int) > 4096
  · rw [if_pos hb]
  rw [if_neg hb, tsz_Encode.f_eq (by omega) hok]
  simp only [Option.bind_some]
  rw [ref_check_f (by omega) (by omega)]
  simp only [Option.bind_some]
  rw [if_pos (encT_snd l), encT_snd]
  by_cases hk : checkF l = 0
  · obtain ⟨hn, _, _⟩ := checkF_zero hk
    obtain ⟨h1, h2⟩ := encB_len l hn
    rw [if_pos hk, encT_ok hk]
    have hm : mx 0 (wrap64 ((l.length : Int) - 1)) = ((l.length - 1 : Nat) : Int) := by unfold mx wrap64; split <;> omega
    rw [hm, show wrap64 (28 * ((l.length - 1 : Nat) : Int)) = 28 * ((l.length - 1 : Nat) : Int) from by unfold wrap64; omega, show wrap64 (26 + 28 * ((l.length - 1 : Nat) : Int)) = 26 + 28 * ((l.length - 1 : Nat) : Int) from by unfold wrap64; omega]
    simp only
    rw [if_pos (by omega)]
    simp only [Option.some.injEq, decide_eq_true_eq]
    omega
  · rw [if_neg hk, encT_bad hk]
    rfl
end Go.Proofs.YtmnlbedgkjnodaaDoor.TeR
