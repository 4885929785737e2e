/- Plain lemmas: the document's Read of an entry is what index.List reads. -/
import Derived.Test.YtohmbmjneainbaaIxL
namespace Go.Proofs.Ytohmbmjneainbaa.IxL
open Go.RowKit Go.Proofs.YtohmbmjneainbaaW.PrintWords Go.Proofs.YtohmbmjneainbaaW.PrintLast Go.Proofs.YtohmbmjneainbaaW.PrintMore Go.Proofs.Ytohmbmjneainbaa.QB Go.Proofs.Ytohmbmjneainbaa.Uv Go.Proofs.Ytohmbmjneainbaa.UvP Go.Proofs.Ytohmbmjneainbaa.IxP Go.Proofs.Ytohmbmjneainbaa.IrW
set_option linter.unusedVariables false
set_option linter.unusedSimpArgs false
theorem wsub2 {a b c : Nat} (h : b + c ≤ a) (ha : a ≤ 1099511627776) : wrap64 (wrap64 ((a : Int) - (b : Int)) - (c : Int)) = ((a - (b + c) : Nat) : Int) := by
  have h1 : wrap64 ((a : Int) - (b : Int)) = (a : Int) - (b : Int) := by unfold wrap64; omega
  rw [h1]; unfold wrap64; omega
set_option maxHeartbeats 2000000 in
theorem Read_some {b : List Int} (hb : Bytes b) (hl : b.length ≤ 1000000) {x : S42} {t : List Int} (h : rdEntry b = some (x, t)) (k : Nat) : ∃ n : Nat, 0 < n ∧ n ≤ b.length ∧ t = b.drop n ∧ thermographref08_Read.f k b = some (x.f0, x.f1, x.f2, x.f3, (n : Int)) := by
  unfold rdEntry at h
  cases h1 : rdName b with
  | none => rw [h1] at h; cases h
  | some p1 =>
  obtain ⟨s, t1⟩ := p1
  rw [h1] at h
  simp only [Option.bind_some] at h
  cases h2 : rdNum t1 with
  | none => rw [h2] at h; cases h
  | some p2 =>
  obtain ⟨n1, t2⟩ := p2
  rw [h2] at h
  simp only [Option.bind_some] at h
  cases h3 : rdNum t2 with
  | none => rw [h3] at h; cases h
  | some p3 =>
  obtain ⟨n2, t3⟩ := p3
  rw [h3] at h
  simp only [Option.bind_some] at h
  split at h
  · cases h
  rename_i hz
  simp only [Option.some.injEq, Prod.mk.injEq] at h
  obtain ⟨rfl, rfl⟩ := h
  obtain ⟨i, i1, i2, rfl, i3⟩ := name_some hb (by omega) h1 k
  have hb1 := Bytes.drop hb i
  obtain ⟨j, j1, j2, rfl, j4, j3⟩ := number_some hb1 (by rw [List.length_drop]; omega) h2 k
  have hb2 := Bytes.drop hb1 j
  obtain ⟨m, m1, m2, rfl, m4, m3⟩ := number_some hb2 (by rw [List.length_drop, List.length_drop]; omega) h3 k
  rw [List.length_drop] at j2
  rw [List.length_drop, List.length_drop] at m2
  rw [List.length_drop, List.length_drop, List.length_drop] at hz
  rw [List.drop_drop] at m3
  have hd : ((b.drop i).drop j).drop m = b.drop (i + j + m) := by rw [List.drop_drop, List.drop_drop]; congr 1; omega
  have hbt : Bytes (b.drop (i + j + m)) := Bytes.drop hb _
  have hlt : (b.drop (i + j + m)).length = b.length - (i + j + m) := List.length_drop
  obtain ⟨N, hN⟩ : ∃ N, b.length = N := ⟨_, rfl⟩
  rw [hN] at i2 j2 m2 hz hl hlt
  have c0 : ¬ (i : Int) = 0 := by omega
  have c1 : (0 : Int) ≤ (i : Int) := by omega
  have c2 : (i : Int) ≤ (N : Int) := by omega
  have c3 : ¬ (j : Int) = 0 := by omega
  have c4 : (0 : Int) ≤ ((i + j : Nat) : Int) := by omega
  have c5 : ((i + j : Nat) : Int) ≤ (N : Int) := by omega
  have c6 : ¬ (m : Int) = 0 := by omega
  have c7 : ¬ ((N - (i + j + m) : Nat) : Int) < 4 := by omega
  have n0 : i + j + m + 4 ≤ N := by omega
  have n1' : i + j ≤ N := by omega
  have n2' : m ≤ N - (i + j) := by omega
  have n3 : N ≤ 1099511627776 := by omega
  have n4 : 4 ≤ (b.drop (i + j + m)).length := by omega
  clear hz i2 j2 m2 hl
  have p0 : ∀ q : Nat, q < 4 → (0 : Int) ≤ ((i + j + m + q : Nat) : Int) ∧ ((i + j + m + q : Nat) : Int) < (N : Int) := fun q hq => by omega
  have pz := p0 0 (by decide)
  rw [Nat.add_zero] at pz
  have b1 : i + j ≤ 1099511627776 := by omega
  have b3 : i + j + m ≤ 1099511627776 := by omega
  have b4 : i + j + m + 1 ≤ 1099511627776 := by omega
  have b5 : i + j + m + 2 ≤ 1099511627776 := by omega
  have b6 : i + j + m + 3 ≤ 1099511627776 := by omega
  have b7 : i + j + m + 4 ≤ 1099511627776 := by omega
  have q1 : 0 < i + j + m + 4 := by omega
  have q2 : i + j + m + 4 ≤ b.length := by rw [hN]; omega
  have e1 : wrap64 ((i : Int) + (j : Int)) = ((i + j : Nat) : Int) := wadd b1
  have e2 : wrap64 (wrap64 ((N : Int) - ((i + j : Nat) : Int)) - (m : Int)) = ((N - (i + j + m) : Nat) : Int) := wsub2 (Nat.le_of_add_right_le n0) n3
  have e3 : wrap64 (((i + j : Nat) : Int) + (m : Int)) = ((i + j + m : Nat) : Int) := wadd b3
  have e4 : wrap64 (((i + j + m : Nat) : Int) + 1) = ((i + j + m + 1 : Nat) : Int) := wadd1 b4
  have e5 : wrap64 (((i + j + m : Nat) : Int) + 2) = ((i + j + m + 2 : Nat) : Int) := wadd2 b5
  have e6 : wrap64 (((i + j + m : Nat) : Int) + 3) = ((i + j + m + 3 : Nat) : Int) := wadd3 b6
  have e7 : wrap64 (((i + j + m : Nat) : Int) + 4) = ((i + j + m + 4 : Nat) : Int) := wadd4 b7
  have hbg := bigAt hb (p := i + j + m) q2
  refine ⟨i + j + m + 4, q1, q2, by rw [hd, List.drop_drop], ?_⟩
  unfold thermographref08_Read.f
  rw [i3, hN]
  simp only [Option.bind_some]
  rw [if_neg c0, if_pos c1, if_pos c2, Int.toNat_natCast, j3]
  simp only [Option.bind_some]
  rw [if_neg c3, e1, if_pos c4, if_pos c5, Int.toNat_natCast, m3]
  simp only [Option.bind_some]
  rw [if_neg c6, e2, if_neg c7, e3, if_pos pz.1, if_pos pz.2, e4, if_pos (p0 1 (by decide)).1, if_pos (p0 1 (by decide)).2, e5, if_pos (p0 2 (by decide)).1, if_pos (p0 2 (by decide)).2, e6, if_pos (p0 3 (by decide)).1, if_pos (p0 3 (by decide)).2, e7, hbg, hd]
set_option maxHeartbeats 2000000 in
theorem Read_no {b : List Int} (hb : Bytes b) (hl : b.length ≤ 1000000) (h : rdEntry b = none) (k : Nat) : ∃ a c d e, thermographref08_Read.f k b = some (a, c, d, e, 0) := by
  unfold rdEntry at h
  unfold thermographref08_Read.f
  by_cases h1 : rdName b = none
  · obtain ⟨s, hs⟩ := name_no hb (by omega) h1 k
    rw [hs]
    simp only [Option.bind_some, if_true]
    exact ⟨_, _, _, _, rfl⟩
  obtain ⟨⟨s, t1⟩, h1⟩ := Option.ne_none_iff_exists'.1 h1
  rw [h1] at h
  simp only [Option.bind_some] at h
  obtain ⟨i, i1, i2, rfl, i3⟩ := name_some hb (by omega) h1 k
  have hb1 := Bytes.drop hb i
  rw [i3]
  simp only [Option.bind_some]
  rw [if_neg (by omega), if_pos (by omega), if_pos (by omega), Int.toNat_natCast]
  by_cases h2 : rdNum (b.drop i) = none
  · rw [number_no hb1 (by rw [List.length_drop]; omega) h2]
    simp only [Option.bind_some, if_true]
    exact ⟨_, _, _, _, rfl⟩
  obtain ⟨⟨n1, t2⟩, h2⟩ := Option.ne_none_iff_exists'.1 h2
  rw [h2] at h
  simp only [Option.bind_some] at h
  obtain ⟨j, j1, j2, rfl, j4, j3⟩ := number_some hb1 (by rw [List.length_drop]; omega) h2 k
  have hb2 := Bytes.drop hb1 j
  rw [List.length_drop] at j2
  have c3 : ¬ (j : Int) = 0 := by omega
  have c4 : (0 : Int) ≤ ((i + j : Nat) : Int) := by omega
  have c5 : ((i + j : Nat) : Int) ≤ (b.length : Int) := by omega
  have e1 : wrap64 ((i : Int) + (j : Int)) = ((i + j : Nat) : Int) := wadd (by omega)
  rw [j3]
  simp only [Option.bind_some]
  rw [if_neg c3, e1, if_pos c4, if_pos c5, Int.toNat_natCast]
  clear e1
  by_cases h3 : rdNum ((b.drop i).drop j) = none
  · have h3' := number_no hb2 (by rw [List.length_drop, List.length_drop]; omega) h3 k
    rw [List.drop_drop] at h3'
    rw [h3']
    simp only [Option.bind_some, if_true]
    exact ⟨_, _, _, _, rfl⟩
  obtain ⟨⟨n2, t3⟩, h3⟩ := Option.ne_none_iff_exists'.1 h3
  rw [h3] at h
  simp only [Option.bind_some] at h
  obtain ⟨m, m1, m2, rfl, m4, m3⟩ := number_some hb2 (by rw [List.length_drop, List.length_drop]; omega) h3 k
  rw [List.length_drop, List.length_drop] at m2
  rw [List.drop_drop] at m3
  split at h
  · rename_i hz
    rw [List.length_drop, List.length_drop, List.length_drop] at hz
    have e20 : i + j + m ≤ b.length := by clear h h1 h2 h3; omega
    have c6 : ¬ (m : Int) = 0 := by omega
    have c7 : ((b.length - (i + j + m) : Nat) : Int) < 4 := by omega
    have c8 : b.length ≤ 1099511627776 := by omega
    have e2 : wrap64 (wrap64 ((b.length : Int) - ((i + j : Nat) : Int)) - (m : Int)) = ((b.length - (i + j + m) : Nat) : Int) := wsub2 e20 c8
    rw [m3]
    simp only [Option.bind_some]
    rw [if_neg c6, e2, if_pos c7]
    exact ⟨_, _, _, _, rfl⟩
  · cases h
end Go.Proofs.Ytohmbmjneainbaa.IxL
