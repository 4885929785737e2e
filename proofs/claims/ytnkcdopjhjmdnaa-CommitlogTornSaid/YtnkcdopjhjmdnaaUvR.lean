/- What the document's own printed functions of layer 3 on numbers come to: Uvarint, ReadUvarint, in the words of Uv. -/
import Derived.Test.YtnkcdopjhjmdnaaUvP
import Derived.Test.YtnkcdopjhjmdnaaQBx5
namespace Go.Proofs.Ytnkcdopjhjmdnaa.UvR
open Go.RowKit Go.Proofs.YtnkcdopjhjmdnaaW.PrintWords Go.Proofs.YtnkcdopjhjmdnaaW.PrintLast Go.Proofs.YtnkcdopjhjmdnaaW.PrintMore Go.Proofs.Ytnkcdopjhjmdnaa.QB Go.Proofs.Ytnkcdopjhjmdnaa.Uv Go.Proofs.Ytnkcdopjhjmdnaa.UvP
set_option linter.unusedVariables false
set_option linter.unusedSimpArgs false

theorem ref_Uvarint_l0 (v : Nat) : ∀ (k : Nat) (acc : List Int), v < 18446744073709551616 → (uv v).length ≤ k → acc.length + k < 140737488355328 → thermographref03_Uvarint.l0 k (v : Int) acc = some (acc ++ uv v) := by
  induction v using uv_induct with
  | h0 v h =>
    intro k acc _ hk ha
    rw [uv_small h] at hk ⊢
    obtain ⟨k, rfl⟩ : ∃ m, k = m + 1 := ⟨k - 1, by simp at hk; omega⟩
    simp only [thermographref03_Uvarint.l0]
    rw [if_neg (by omega), if_pos (by omega), show (v : Int) % 256 = v from by omega]
  | h1 v h ih =>
    intro k acc hv hk ha
    rw [uv_big h] at hk ⊢
    simp only [List.length_cons] at hk
    obtain ⟨k, rfl⟩ : ∃ m, k = m + 1 := ⟨k - 1, by omega⟩
    simp only [thermographref03_Uvarint.l0]
    have e1 : IntKind.u64.wrap (Int.tdiv (v : Int) 128) = ((v / 128 : Nat) : Int) := by
      rw [Int.tdiv_eq_ediv_of_nonneg (by omega), IntKind.wrap_u64]; omega
    have e2 : IntKind.u64.wrap (Int.tmod (v : Int) 128 + 128) % 256 = ((v % 128 + 128 : Nat) : Int) := by
      rw [Int.tmod_eq_emod_of_nonneg (by omega), IntKind.wrap_u64]; omega
    rw [if_pos (by omega), if_pos (by omega), e1, e2, ih k _ (by omega) (by omega) (by simp; omega)]
    simp
theorem ref_Uvarint_f {v k : Nat} {l : List Int} (hv : v < 18446744073709551616) (hk : 10 ≤ k) (hk2 : k ≤ 1000000) (hl : l.length ≤ 140737480000000) : thermographref03_Uvarint.f k l (v : Int) = some (l ++ uv v) := by
  unfold thermographref03_Uvarint.f
  simp only [Option.bind_some, List.nil_append, List.length_nil]
  rw [if_pos (by omega)]
  exact ref_Uvarint_l0 v k l hv (Nat.le_trans (uv_length10 hv) hk) (by omega)

theorem or_shl_ref {acc c i : Nat} (hi : i ≤ 9) (ha : acc < 2 ^ (7 * i)) (hc : c < 256) :
    Go.bits .or .u64 (acc : Int) (shl .u64 (IntKind.u64.wrap (Int.tmod (c : Int) 128)) (wrap64 (7 * (i : Int)))) = ((acc + c % 128 * 2 ^ (7 * i) % 18446744073709551616 : Nat) : Int) := by
  have e1 : IntKind.u64.wrap (Int.tmod (c : Int) 128) = ((c % 128 : Nat) : Int) := by
    rw [Int.tmod_eq_emod_of_nonneg (by omega), IntKind.wrap_u64]
    omega
  have e2 : wrap64 (7 * (i : Int)) = ((7 * i : Nat) : Int) := by
    unfold wrap64
    omega
  rw [e1, e2, or_shl0 hi ha (by omega)]

end Go.Proofs.Ytnkcdopjhjmdnaa.UvR
