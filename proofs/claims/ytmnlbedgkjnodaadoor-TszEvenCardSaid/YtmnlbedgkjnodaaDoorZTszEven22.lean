/- The law TszEven, as a statement on lists.
   The law TszEven, its call. -/
import Derived.Test.YtmnlbedgkjnodaaDoorZTszEven21
namespace Go.Proofs.YtmnlbedgkjnodaaDoor.TeV
open Go.RowKit Go.Proofs.YtmnlbedgkjnodaaDoorW.PrintWords Go.Proofs.YtmnlbedgkjnodaaDoorW.PrintLast Go.Proofs.YtmnlbedgkjnodaaDoorW.PrintMore Go.Proofs.YtmnlbedgkjnodaaDoor.QB Go.Proofs.YtmnlbedgkjnodaaDoor.Bt Go.Proofs.YtmnlbedgkjnodaaDoor.Uv Go.Proofs.YtmnlbedgkjnodaaDoor.UvP Go.Proofs.YtmnlbedgkjnodaaDoor.TzP Go.Proofs.YtmnlbedgkjnodaaDoor.TeP Go.Proofs.YtmnlbedgkjnodaaDoor.TeW Go.Proofs.YtmnlbedgkjnodaaDoor.TeR Go.Proofs.YtmnlbedgkjnodaaDoor.TeE Go.Proofs.YtmnlbedgkjnodaaDoor.TeL
set_option linter.unusedVariables false
set_option linter.unusedSimpArgs false
theorem chk_of : ∀ (l : List Pt) (a : Int), (∀ i (h : i < l.length), 0 ≤ l[i].f0 ∧ l[i].f0 ≤ 1099511627776 ∧ a < l[i].f0) → (∀ i (h : i + 1 < l.length), l[i].f0 < l[i + 1].f0) → chk a l = 0
  | [], _, _, _ => rfl
  | p :: t, a, h1, h2 => by
    have h0 := h1 0 (by simp)
    simp only [List.getElem_cons_zero] at h0
    unfold chk
    rw [if_neg (by omega), if_neg (by omega)]
    refine chk_of t p.f0 (fun i hi => ?_) (fun i hi => ?_)
    · have h3 := h1 (i + 1) (by simpa using hi)
      simp only [List.getElem_cons_succ] at h3
      refine ⟨h3.1, h3.2.1, ?_⟩
      have h4 : ∀ j (hj : j < t.length), p.f0 < t[j].f0 := by
        intro j
        induction j with
        | zero =>
          intro hj
          have := h2 0 (by simpa using hj)
          simpa using this
        | succ j ih =>
          intro hj
          have h5 := ih (by omega)
          have h6 := h2 (j + 1) (by simpa using hj)
          simp only [List.getElem_cons_succ] at h6
          omega
      exact h4 i hi
    · have h3 := h2 (i + 1) (by simpa using hi)
      simpa using h3
def evenL (F D V S : Int) (n : Nat) : List Pt := (List.range n).map fun i : Nat => ⟨F + (i : Int) * D, V, S⟩
section
variable {F D V S : Int} {n : Nat}
theorem evenL_length : (evenL F D V S n).length = n := by simp [evenL]
theorem evenL_get {i : Nat} (h : i < (evenL F D V S n).length) : (evenL F D V S n)[i] = ⟨F + i * D, V, S⟩ := by simp [evenL]
theorem evenL_getD {i : Nat} (h : i < n) : (evenL F D V S n).getD i zp = ⟨F + i * D, V, S⟩ := by
  rw [getD_at (by rw [evenL_length]; exact h), evenL_get]
theorem evenL_succ : evenL F D V S (n + 1) = evenL F D V S n ++ [⟨F + n * D, V, S⟩] := by simp [evenL, List.range_succ]
theorem even_check (hF : 0 ≤ F) (hD : 0 < D) (hn : n ≤ 512) (hT : ∀ i : Nat, i < n → F + i * D ≤ 1099511627776) : checkF (evenL F D V S n) = 0 := by
  unfold checkF
  rw [evenL_length, if_neg (by omega)]
  refine chk_of _ _ (fun i hi => ?_) (fun i hi => ?_)
  · rw [evenL_get]
    rw [evenL_length] at hi
    have h1 := hT i hi
    have h2 : 0 ≤ (i : Int) * D := Int.mul_nonneg (by omega) (by omega)
    simp only
    omega
  · rw [evenL_get, evenL_get]
    simp only
    have : ((i + 1 : Nat) : Int) * D = i * D + D := by rw [Int.natCast_add, Int.add_mul]; simp
    omega
theorem even_go (hD : 0 < D) : ∀ j, j + 1 ≤ n → (goB (evenL F D V S n) (j + 1)).1.length ≤ 192 + (if j = 0 then 0 else 67 + 3 * j) ∧ (0 < j → (goB (evenL F D V S n) (j + 1)).2.1 = D) := by
  intro j
  induction j with
  | zero =>
    intro _
    rw [goB_one]
    simp [first_length]
  | succ j ih =>
    intro hj
    obtain ⟨h1, h2⟩ := ih (by omega)
    rw [goB_succ, evenL_getD (by omega), evenL_getD (by omega)]
    have hm : ((j + 1 : Nat) : Int) * D = j * D + D := by rw [Int.natCast_add, Int.add_mul]; simp
    have hd : F + ((j + 1 : Nat) : Int) * D - (F + (j : Int) * D) = D := by omega
    unfold TeP.step
    simp only [hd, Nat.xor_self, List.length_append]
    have hv : ∀ w : Win, (valueB 0 w).1.length = 1 := fun w => by unfold valueB; rw [if_pos rfl]; rfl
    rw [hv, hv]
    refine ⟨?_, fun _ => trivial⟩
    rw [if_neg (by omega)]
    rcases Nat.eq_zero_or_pos j with h0 | h0
    · subst h0
      have h3 := (timeB_length (D - (goB (evenL F D V S n) (0 + 1)).2.1)).2
      rw [if_pos rfl] at h1
      omega
    · rw [h2 h0, Int.sub_self, show timeB 0 = bitsOf 0 1 from rfl, bitsOf_length]
      rw [if_neg (by omega)] at h1
      omega
theorem even_len (hD : 0 < D) (hn : 1 ≤ n) (hn2 : n ≤ 512) : 25 ≤ (encB (evenL F D V S n)).length ∧ (encB (evenL F D V S n)).length ≤ 26 + (3 * (n - 1) + 67 + 7) / 8 := by
  have h1 := uv_length_le n 2 (by omega) (by omega)
  have h2 := uv_pos n
  obtain ⟨h3, _⟩ := even_go (F := F) (V := V) (S := S) (n := n) hD (n - 1) (by omega)
  have h4 := (bitsT_len (l := evenL F D V S n) (by rw [evenL_length]; omega)).1
  unfold encB
  unfold bitsT at h4 ⊢
  rw [evenL_length] at h4 ⊢
  rw [show n - 1 + 1 = n from by omega] at h3
  rw [List.length_append, pk_length]
  split at h3
  · omega
  · omega
end
theorem wrap_eq {x : Int} (h : -9223372036854775808 ≤ x ∧ x < 9223372036854775808) : wrap64 x = x := by unfold wrap64; omega
theorem even_l0 (F D V S : Int) (hF : 0 ≤ F ∧ F < 4294967296) (hD : 0 < D ∧ D < 4294967296) (hV : 0 ≤ V ∧ V < 18446744073709551616) (hS : 0 ≤ S ∧ S < 18446744073709551616) (m : Nat) (hm : 1 ≤ m) (hm2 : m ≤ 512) :
    ∀ (d i k : Nat), i + d = m → d < k → (∀ j : Nat, j < i → F + j * D ≤ 1099511627776) → thermographlaw05_TszEven.l0 k F D V S (m : Int) (evenL F D V S i) (i : Int) = some true := by
  intro d
  induction d with
  | zero =>
    intro i k hi hk hT
    obtain ⟨k, rfl⟩ : ∃ j, k = j + 1 := ⟨k - 1, by omega⟩
    obtain rfl : i = m := by omega
    have hok : OkL (evenL F D V S i) := by
      intro p hp
      obtain ⟨j, hj, rfl⟩ := List.mem_iff_getElem.1 hp
      rw [evenL_get]
      rw [evenL_length] at hj
      have h1 := hT j hj
      have h2 : 0 ≤ (j : Int) * D := Int.mul_nonneg (by omega) (by omega)
      exact ⟨⟨by simp only; omega, by simp only; omega⟩, hV, hS⟩
    have hc := even_check (V := V) (S := S) hF.1 hD.1 hm2 hT
    obtain ⟨h1, h2⟩ := even_len (F := F) (V := V) (S := S) hD.1 hm hm2
    simp only [thermographlaw05_TszEven.l0]
    rw [if_neg (by omega), tsz_Encode.f_eq (by rw [evenL_length]; omega) hok, encT_ok hc]
    simp only [Option.bind_some]
    rw [if_pos trivial]
    have e : wrap64 (26 + wrap64 (Int.tdiv (wrap64 (wrap64 (wrap64 (3 * wrap64 ((i : Int) - 1)) + 67) + 7)) 8)) = ((26 + (3 * (i - 1) + 67 + 7) / 8 : Nat) : Int) := by
      rw [wrap_eq (x := (i : Int) - 1) (by omega), wrap_eq (x := 3 * ((i : Int) - 1)) (by omega), wrap_eq (x := 3 * ((i : Int) - 1) + 67) (by omega), wrap_eq (x := 3 * ((i : Int) - 1) + 67 + 7) (by omega), Int.tdiv_eq_ediv_of_nonneg (by omega), wrap_eq (x := (3 * ((i : Int) - 1) + 67 + 7) / 8) (by omega), wrap_eq (by omega)]
      omega
    rw [e, if_pos (by omega)]
    simp only [Option.some.injEq, decide_eq_true_eq]
    omega
  | succ d ih =>
    intro i k hi hk hT
    obtain ⟨k, rfl⟩ : ∃ j, k = j + 1 := ⟨k - 1, by omega⟩
    have hb : (i : Int) * D ≤ 512 * 4294967296 := by
      have h1 : (i : Int) * D ≤ 512 * D := Int.mul_le_mul_of_nonneg_right (by omega) (by omega)
      have h2 : 512 * D ≤ 512 * 4294967296 := by omega
      omega
    have hb0 : 0 ≤ (i : Int) * D := Int.mul_nonneg (by omega) (by omega)
    have e : wrap64 (wrap64 F + wrap64 ((i : Int) * wrap64 D)) = F + i * D := by
      rw [wrap_eq (x := F) (by omega), wrap_eq (x := D) (by omega), wrap_eq (x := (i : Int) * D) (by omega), wrap_eq (by omega)]
    simp only [thermographlaw05_TszEven.l0]
    rw [if_pos (by omega), e]
    by_cases h : F + (i : Int) * D > 1099511627776
    · rw [if_pos h]
    · rw [if_neg h, if_pos (by rw [evenL_length]; omega), ← evenL_succ, wrap_eq (x := (i : Int) + 1) (by omega)]
      refine ih (i + 1) k (by omega) (by omega) (fun j hj => ?_)
      rcases Nat.lt_or_ge j i with h1 | h1
      · exact hT j h1
      · obtain rfl : j = i := by omega
        omega
theorem TszEven_f (a0 a1 a2 a3 a4 : Int) (w0 : (Lit.int .u32 a0).wf = true) (w1 : (Lit.int .u32 a1).wf = true) (w2 : (Lit.int .u64 a2).wf = true) (w3 : (Lit.int .u64 a3).wf = true) (w4 : (Lit.int .u16 a4).wf = true) : thermographlaw05_TszEven.f 1000 a0 a1 a2 a3 a4 = some true := by
  simp [Lit.wf, IntKind.min, IntKind.max, IntKind.signed, IntKind.bits] at w0 w1 w2 w3 w4
  unfold thermographlaw05_TszEven.f
  obtain ⟨m, hm, h1, h2⟩ : ∃ m : Nat, wrap64 (Int.tmod (wrap64 a4) 513 + 1) = (m : Int) ∧ 1 ≤ m ∧ m ≤ 513 := by
    refine ⟨(a4 % 513 + 1).toNat, ?_, by omega, by omega⟩
    rw [wrap_eq (x := a4) (by omega), Int.tmod_eq_emod_of_nonneg (by omega), wrap_eq (by omega)]
    omega
  rw [hm]
  by_cases hb : (m : Int) > 512
  · rw [if_pos hb]
    rfl
  · rw [if_neg hb]
    simp only [thermographlaw05_TszEven.j0]
    by_cases hz : a1 = 0
    · rw [if_pos (by simpa using hz)]
    · rw [if_neg (by simpa using hz)]
      exact even_l0 a0 a1 a2 a3 (by omega) (by omega) (by omega) (by omega) m h1 (by omega) m 0 999 (by omega) (by omega) (fun j hj => by omega)
end Go.Proofs.YtmnlbedgkjnodaaDoor.TeV
namespace Go.Proofs.YtmnlbedgkjnodaaDoor.LwTszEven
open Go.RowKit Go.Proofs.YtmnlbedgkjnodaaDoorW.PrintWords Go.Proofs.YtmnlbedgkjnodaaDoorW.PrintLast Go.Proofs.YtmnlbedgkjnodaaDoorW.PrintMore Go.Proofs.YtmnlbedgkjnodaaDoor.QB Go.Proofs.YtmnlbedgkjnodaaDoor.TeP Go.Proofs.YtmnlbedgkjnodaaDoor.TeV
theorem TszEven_calls (W : World) (a0 : Int) (w0 : (Lit.int .u32 a0).wf = true) (a1 : Int) (w1 : (Lit.int .u32 a1).wf = true) (a2 : Int) (w2 : (Lit.int .u64 a2).wf = true) (a3 : Int) (w3 : (Lit.int .u64 a3).wf = true) (a4 : Int) (w4 : (Lit.int .u16 a4).wf = true) (hL : Ld.LaidW W) :
    Calls Tryd.prog 4 #[.int .u32 a0, .int .u32 a1, .int .u64 a2, .int .u64 a3, .int .u16 a4] W fun e w' => e = .returned (.bool true) ∧ Below W.heap.size W w' :=
  thermographlaw05_TszEven.calls 1000 a0 a1 a2 a3 a4 true W (TszEven_f a0 a1 a2 a3 a4 w0 w1 w2 w3 w4) hL
end Go.Proofs.YtmnlbedgkjnodaaDoor.LwTszEven
