/- The plain law of BitsOne: for every uint64, whatever bytes stand behind it (more than 4096 are let by at once), a number that is written is read back; no fewer bytes are it, nor are others of its length. No condition. -/
import Derived.Test.YtnhfkiiknmnjgaaQBx7
import Derived.Test.YtnhfkiiknmnjgaaUvP
namespace Go.Proofs.Ytnhfkiiknmnjgaa.Pure
open Go.RowKit Go.Proofs.Ytnhfkiiknmnjgaa.QB Go.Proofs.YtnhfkiiknmnjgaaW.PrintWords Go.Proofs.YtnhfkiiknmnjgaaW.PrintLast Go.Proofs.Ytnhfkiiknmnjgaa.Uv Go.Proofs.Ytnhfkiiknmnjgaa.UvP
set_option linter.unusedVariables false
set_option linter.unusedSimpArgs false

theorem ruv_short {v : Nat} (hv : v < 18446744073709551616) {m : Nat} (hm : m < (uv v).length) : ruv ((uv v).take m) = (0, 0) := by
  have hb : Bytes ((uv v).take m) := fun x hx => uv_bytes v x (List.mem_of_mem_take hx)
  rcases ruv_cases hb with ⟨h, _⟩ | ⟨w, t, h1, h2, _⟩
  · exact h
  · exfalso
    have h3 : uv v = uv w ++ (t ++ (uv v).drop m) := by
      rw [← List.append_assoc, ← h1, List.take_append_drop]
    have h4 := ruv_uv h2 (t ++ (uv v).drop m)
    rw [← h3, ruv_uv' hv] at h4
    simp only [Prod.mk.injEq] at h4
    have h5 : (uv w).length ≤ m := by
      have := congrArg List.length h1
      rw [List.length_take, List.length_append] at this
      omega
    omega
theorem ruv_other {v : Nat} {i : Nat} (hi : i < (uv v).length) {y : Int} (hy0 : 0 ≤ y) (hy : y < 256) (hne : y ≠ (uv v)[i]) :
    (ruv ((uv v).set i y)).1 = (v : Int) → (ruv ((uv v).set i y)).2 ≠ ((uv v).length : Int) := by
  intro h1 h2
  have hb : Bytes ((uv v).set i y) := fun x hx => by
    rcases List.mem_or_eq_of_mem_set hx with h | rfl
    · exact uv_bytes v x h
    · exact ⟨hy0, hy⟩
  have hp := uv_pos v
  obtain ⟨w, t, e1, e2, e3, _⟩ := ruv_sound hb (r := (ruv ((uv v).set i y)).1) (n := (ruv ((uv v).set i y)).2) rfl (by omega)
  have ew : w = v := by omega
  subst ew
  have hl := congrArg List.length e1
  rw [List.length_set, List.length_append] at hl
  have ht : t = [] := List.eq_nil_of_length_eq_zero (by omega)
  subst ht
  rw [List.append_nil] at e1
  apply hne
  have := List.getElem_set_self (l := uv w) (i := i) (a := y) (by rw [List.length_set]; exact hi)
  simp only [e1] at this
  exact this.symm
theorem at_range (a n : Int) (h0 : 0 < n) (h1 : n ≤ 1000) (ha : -9223372036854775808 ≤ a ∧ a < 9223372036854775808) : 0 ≤ Int.tmod (wrap64 (Int.tmod a n + n)) n ∧ Int.tmod (wrap64 (Int.tmod a n + n)) n < n := by
  have h2 := Int.tmod_lt_of_pos a h0
  have h3 : -n < Int.tmod a n := by
    have := Int.lt_tmod_of_pos a h0
    omega
  have e : wrap64 (Int.tmod a n + n) = Int.tmod a n + n := by unfold wrap64; omega
  rw [e, Int.tmod_eq_emod_of_nonneg (by omega)]
  exact ⟨Int.emod_nonneg _ (by omega), Int.emod_lt_of_pos _ h0⟩

theorem BitsOne : thermographlaw03_BitsOne.Pure := by
  intro a0 l1 a2 a3 hw0 _ _ hw1 hw2 hw3
  by_cases hl : (l1.length : Int) > 4096
  · exact ⟨0, by unfold thermographlaw03_BitsOne.f; rw [if_pos hl]⟩
  simp [Lit.wf, IntKind.min, IntKind.max, IntKind.signed, IntKind.bits] at hw0 hw2 hw3
  obtain ⟨v, rfl⟩ : ∃ v : Nat, a0 = (v : Int) := ⟨a0.toNat, by omega⟩
  have hv : v < 18446744073709551616 := by omega
  have hp := uv_pos v
  have h10 := uv_length10 hv
  have hb1 : Bytes l1 := fun x hx => by
    have := hw1 x hx
    simp [Lit.wf, IntKind.min, IntKind.max, IntKind.signed, IntKind.bits] at this
    omega
  have hb2 : Bytes (uv v ++ l1) := fun x hx => by
    rcases List.mem_append.1 hx with h | h
    · exact uv_bytes v x h
    · exact hb1 x h
  refine ⟨1000, ?_⟩
  unfold thermographlaw03_BitsOne.f
  rw [if_neg hl, bits_Uvarint_f hv (by omega) (by omega) (by simp)]
  simp only [Option.bind_some, List.nil_append, List.length_nil]
  rw [if_pos (by omega)]
  try simp only [Option.bind_some]
  rw [if_pos (by omega), bits_Read_f hb2 (by rw [List.length_append]; omega) (by omega), ruv_uv hv]
  simp only [Option.bind_some]
  rw [if_pos trivial, if_pos trivial, if_neg (by omega), show decide (((uv v).length : Int) > 10) = false from by simp; omega]
  obtain ⟨n, hn⟩ : ∃ n : Nat, (uv v).length = n := ⟨_, rfl⟩
  obtain ⟨h2, h3⟩ := at_range a2 ((uv v).length : Int) (by omega) (by omega) (by omega)
  have e1 : wrap64 (((uv v).length : Int) - 1) = (((uv v).length - 1 : Nat) : Int) := by unfold wrap64; omega
  have hr1 : bits_ReadUvarint.f 999 ((uv v).take ((uv v).length - 1)) = some (0, 0) := by
    rw [bits_Read_f (fun x hx => uv_bytes v x (List.mem_of_mem_take hx)) (by rw [List.length_take]; omega) (by omega), ruv_short hv (by omega)]
  obtain ⟨i, hi⟩ : ∃ i : Nat, Int.tmod (wrap64 (Int.tmod a2 ((uv v).length : Int) + ((uv v).length : Int))) ((uv v).length : Int) = (i : Int) := ⟨(Int.tmod (wrap64 (Int.tmod a2 ((uv v).length : Int) + ((uv v).length : Int))) ((uv v).length : Int)).toNat, by omega⟩
  rw [hi] at h3
  have hil : i < (uv v).length := by omega
  have hby := uv_bytes v _ (List.getElem_mem hil)
  have hr2 : bits_ReadUvarint.f 999 ((uv v).set i (((uv v)[i] + a3) % 256)) = some (ruv ((uv v).set i (((uv v)[i] + a3) % 256))) := by
    refine bits_Read_f (fun x hx => ?_) (by rw [List.length_set]; omega) (by omega)
    rcases List.mem_or_eq_of_mem_set hx with h | rfl
    · exact uv_bytes v x h
    · omega
  simp only [thermographlaw03_BitsOne.j0]
  rw [e1, if_neg (by simp), if_pos (by omega), if_pos (by omega), Int.toNat_natCast, hr1]
  simp only [Option.bind_some]
  rw [if_neg (by omega), hi, if_pos (by omega), if_pos (by omega), Int.toNat_natCast, rd_nat hil, hr2]
  simp only [Option.bind_some]
  rw [if_pos trivial]
  by_cases h0 : a3 = 0
  · rw [if_pos h0]
  · rw [if_neg h0]
    by_cases hx : (ruv ((uv v).set i (((uv v)[i] + a3) % 256))).1 = (v : Int)
    · rw [if_pos hx]
      have := ruv_other hil (y := ((uv v)[i] + a3) % 256) (by omega) (by omega) (by omega) hx
      simpa using this
    · rw [if_neg hx]
end Go.Proofs.Ytnhfkiiknmnjgaa.Pure
