/- The plain law of BitsLengths: for every list of uint64 (a list of more than 1024 is let by at once) each number has as many bytes as groups of seven bits that it needs, and the numbers, one behind the other, are read one behind the other. No condition. -/
import Derived.Test.YtnhfkiiknmnjgaaQBx6
import Derived.Test.YtnhfkiiknmnjgaaUvP
namespace Go.Proofs.Ytnhfkiiknmnjgaa.Pure
open Go.RowKit Go.Proofs.Ytnhfkiiknmnjgaa.QB Go.Proofs.YtnhfkiiknmnjgaaW.PrintWords Go.Proofs.YtnhfkiiknmnjgaaW.PrintLast Go.Proofs.Ytnhfkiiknmnjgaa.Uv Go.Proofs.Ytnhfkiiknmnjgaa.UvP
set_option linter.unusedVariables false
set_option linter.unusedSimpArgs false

/-- Numbers, one behind the other. -/
def uvs (l : List Nat) : List Int := (l.map uv).flatten
theorem uvs_cons (a : Nat) (l : List Nat) : uvs (a :: l) = uv a ++ uvs l := rfl
theorem uvs_append (a b : List Nat) : uvs (a ++ b) = uvs a ++ uvs b := by simp [uvs]
theorem uvs_one (a : Nat) : uvs [a] = uv a := by simp [uvs]
theorem uvs_bytes (l : List Nat) : Bytes (uvs l) := by
  induction l with
  | nil => intro x hx; simp [uvs] at hx
  | cons a l ih =>
    intro x hx
    rw [uvs_cons, List.mem_append] at hx
    rcases hx with h | h
    · exact uv_bytes a x h
    · exact ih x h
theorem uvs_length (l : List Nat) (h : ∀ v ∈ l, v < 18446744073709551616) : (uvs l).length ≤ 10 * l.length := by
  induction l with
  | nil => simp [uvs]
  | cons a l ih =>
    rw [uvs_cons, List.length_append, List.length_cons]
    have h1 := uv_length10 (h a List.mem_cons_self)
    have h2 := ih (fun v hv => h v (List.mem_cons_of_mem _ hv))
    omega
/-- The inner loop counts the groups. -/
theorem lengths_l1 (x0 x3 : List Int) (x4 x5 : Int) (v : Nat) : ∀ (k : Nat) (c : Nat), v < 18446744073709551616 → (uv v).length ≤ k → c + (uv v).length ≤ 100 →
    thermographlaw03_BitsLengths.l1 k x0 x3 x4 x5 (c : Int) ((v / 128 : Nat) : Int) = (if (x3.length : Int) = wrap64 (x5 + ((c + (uv v).length - 1 : Nat) : Int)) then thermographlaw03_BitsLengths.l0 (k - (uv v).length) x0 x3 (wrap64 (x4 + 1)) else some false) := by
  induction v using uv_induct with
  | h0 v h =>
    intro k c hv hk hc
    rw [uv_small h] at hk ⊢
    obtain ⟨k, rfl⟩ : ∃ m, k = m + 1 := ⟨k - 1, by simp at hk; omega⟩
    simp only [thermographlaw03_BitsLengths.l1]
    rw [if_neg (by omega)]
    simp
  | h1 v h ih =>
    intro k c hv hk hc
    rw [uv_big h] at hk hc ⊢
    simp only [List.length_cons] at hk hc ⊢
    obtain ⟨k, rfl⟩ : ∃ m, k = m + 1 := ⟨k - 1, by omega⟩
    have hl := uv_pos (v / 128)
    simp only [thermographlaw03_BitsLengths.l1]
    rw [if_pos (by omega)]
    have e1 : wrap64 ((c : Int) + 1) = ((c + 1 : Nat) : Int) := by unfold wrap64; omega
    have e2 : IntKind.u64.wrap (Int.tdiv ((v / 128 : Nat) : Int) 128) = ((v / 128 / 128 : Nat) : Int) := by
      rw [Int.tdiv_eq_ediv_of_nonneg (by omega), IntKind.wrap_u64]; omega
    rw [e1, e2, ih k (c + 1) (by omega) (by omega) (by omega)]
    rw [show c + 1 + (uv (v / 128)).length - 1 = c + ((uv (v / 128)).length + 1) - 1 from by omega, show k + 1 - ((uv (v / 128)).length + 1) = k - (uv (v / 128)).length from by omega]
def ints (ns : List Nat) : List Int := ns.map fun n : Nat => (n : Int)
theorem rd_ints {ns : List Nat} {i : Nat} (h : i < ns.length) : rd (ints ns) (i : Int) = (ns[i] : Int) := by
  rw [rd_nat (by simpa [ints] using h)]
  simp [ints]
theorem ints_length (ns : List Nat) : (ints ns).length = ns.length := by simp [ints]
theorem take_snoc' {ns : List Nat} {i : Nat} (h : i < ns.length) : ns.take (i + 1) = ns.take i ++ [ns[i]] := by
  rw [List.take_succ_eq_append_getElem h]
theorem lengths_l0 (ns : List Nat) (hn : ns.length ≤ 1024) (hv : ∀ v ∈ ns, v < 18446744073709551616) : ∀ (d i k : Nat), i + d = ns.length → 12 * d + 40 ≤ k → k ≤ 1000000 →
    ∃ k', k ≤ k' + 12 * d + 1 ∧ k' ≤ k ∧ thermographlaw03_BitsLengths.l0 k (ints ns) (uvs (ns.take i)) (i : Int) = thermographlaw03_BitsLengths.l2 k' (ints ns) (uvs ns) 0 := by
  intro d
  induction d with
  | zero =>
    intro i k hi hk hk2
    obtain ⟨k, rfl⟩ : ∃ m, k = m + 1 := ⟨k - 1, by omega⟩
    refine ⟨k, by omega, by omega, ?_⟩
    simp only [thermographlaw03_BitsLengths.l0]
    rw [ints_length, if_neg (by omega), List.take_of_length_le (by omega)]
  | succ d ih =>
    intro i k hi hk hk2
    obtain ⟨k, rfl⟩ : ∃ m, k = m + 1 := ⟨k - 1, by omega⟩
    have hlt : i < ns.length := by omega
    have hvi := hv _ (List.getElem_mem hlt)
    have hlen := uv_length10 hvi
    have hpos := uv_pos ns[i]
    have hul := uvs_length (ns.take i) (fun v h => hv v (List.mem_of_mem_take h))
    have hti : (ns.take i).length ≤ 1024 := by rw [List.length_take]; omega
    obtain ⟨k', h1, h2, h3⟩ := ih (i + 1) (k - (uv ns[i]).length) (by omega) (by omega) (by omega)
    refine ⟨k', by omega, by omega, ?_⟩
    rw [← h3]
    simp only [thermographlaw03_BitsLengths.l0]
    rw [ints_length, if_pos (by omega), if_pos (by omega), rd_ints hlt, bits_Uvarint_f hvi (by omega) (by omega) (by omega)]
    simp only [Option.bind_some]
    have e2 : IntKind.u64.wrap (Int.tdiv (ns[i] : Int) 128) = ((ns[i] / 128 : Nat) : Int) := by
      rw [Int.tdiv_eq_ediv_of_nonneg (by omega), IntKind.wrap_u64]; omega
    have e3 := lengths_l1 (ints ns) (uvs (ns.take i) ++ uv ns[i]) (i : Int) ((uvs (ns.take i)).length : Int) ns[i] k 1 hvi (by omega) (by omega)
    rw [e2, show ((1 : Int)) = ((1 : Nat) : Int) from rfl, e3, if_pos (by rw [List.length_append]; unfold wrap64; omega), take_snoc' hlt, uvs_append, uvs_one]
    rw [wrap_succ (show i ≤ 2000 by omega)]
theorem uv300 : uv 300 = [172, 2] := by
  rw [uv_big (by omega), uv_small (by omega)]
  rfl
theorem lengths_l2 (ns : List Nat) (hn : ns.length ≤ 1024) (hv : ∀ v ∈ ns, v < 18446744073709551616) : ∀ (d i k : Nat), i + d = ns.length → d + 30 ≤ k → k ≤ 1000000 →
    thermographlaw03_BitsLengths.l2 k (ints ns) (uvs (ns.drop i)) (i : Int) = some true := by
  intro d
  induction d with
  | zero =>
    intro i k hi hk hk2
    obtain ⟨k, rfl⟩ : ∃ m, k = m + 1 := ⟨k - 1, by omega⟩
    simp only [thermographlaw03_BitsLengths.l2]
    rw [ints_length, if_neg (by omega), List.drop_eq_nil_of_le (by omega), show uvs [] = [] from rfl, bits_Read_f (by intro x hx; simp at hx) (by simp) (by omega)]
    simp only [Option.bind_some]
    have h300 := bits_Uvarint_f (v := 300) (k := k) (l := []) (by omega) (by omega) (by omega) (by simp)
    rw [show (300 : Int) = ((300 : Nat) : Int) from rfl, h300]
    simp only [Option.bind_some, List.nil_append]
    rw [bits_Read_f (uv_bytes 300) (by rw [uv300]; simp) (by omega), ruv_uv' (by omega)]
    simp only [Option.bind_some]
    rw [uv300]
    simp [ruv, ruvGo]
  | succ d ih =>
    intro i k hi hk hk2
    obtain ⟨k, rfl⟩ : ∃ m, k = m + 1 := ⟨k - 1, by omega⟩
    have hlt : i < ns.length := by omega
    have hvi := hv _ (List.getElem_mem hlt)
    have hpos := uv_pos ns[i]
    have hul := uvs_length (ns.drop i) (fun v h => hv v (List.mem_of_mem_drop h))
    have hti : (ns.drop i).length ≤ 1024 := by rw [List.length_drop]; omega
    have hd : uvs (ns.drop i) = uv ns[i] ++ uvs (ns.drop (i + 1)) := by rw [List.drop_eq_getElem_cons hlt, uvs_cons]
    have e4 : wrap64 ((i : Int) + 1) = ((i + 1 : Nat) : Int) := by unfold wrap64; omega
    simp only [thermographlaw03_BitsLengths.l2]
    rw [ints_length, if_pos (by omega), bits_Read_f (uvs_bytes _) (by omega) (by omega), hd, ruv_uv hvi]
    simp only [Option.bind_some]
    rw [if_pos (by omega), rd_ints hlt, if_pos rfl, if_neg (by omega), if_pos (by omega), if_pos (by rw [List.length_append]; omega), Int.toNat_natCast, List.drop_left, e4]
    exact ih (i + 1) k (by omega) (by omega) (by omega)

theorem BitsLengths : thermographlaw03_BitsLengths.Pure := by
  intro l _ _ hw
  by_cases hl : (l.length : Int) > 1024
  · exact ⟨0, by unfold thermographlaw03_BitsLengths.f; rw [if_pos hl]⟩
  obtain ⟨ns, rfl, hv⟩ : ∃ ns : List Nat, l = ints ns ∧ ∀ v ∈ ns, v < 18446744073709551616 := by
    refine ⟨l.map Int.toNat, ?_, ?_⟩
    · unfold ints
      rw [List.map_map]
      conv => lhs; rw [← List.map_id l]
      refine List.map_congr_left fun x hx => ?_
      have h := hw x hx
      simp [Lit.wf, IntKind.min, IntKind.max, IntKind.signed, IntKind.bits] at h
      simp
      omega
    · intro v hv
      obtain ⟨x, hx, rfl⟩ := List.mem_map.1 hv
      have h := hw x hx
      simp [Lit.wf, IntKind.min, IntKind.max, IntKind.signed, IntKind.bits] at h
      omega
  rw [ints_length] at hl
  obtain ⟨k', h1, h2, h3⟩ := lengths_l0 ns (by omega) hv ns.length 0 100000 (by omega) (by omega) (by omega)
  refine ⟨100000, ?_⟩
  unfold thermographlaw03_BitsLengths.f
  rw [ints_length, if_neg hl]
  rw [show uvs (ns.take 0) = [] from rfl] at h3
  rw [show ((0 : Nat) : Int) = 0 from rfl] at h3
  rw [h3]
  have h4 := lengths_l2 ns (by omega) hv ns.length 0 k' (by omega) (by omega) (by omega)
  simpa using h4
end Go.Proofs.Ytnhfkiiknmnjgaa.Pure
