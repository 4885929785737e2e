/- The law IndexShort: what its printed function answers, and its call's contract. -/
import Derived.Test.YtohmbmjneainbaaIxR
import Derived.Test.YtohmbmjneainbaaQBx20
namespace Go.Proofs.Ytohmbmjneainbaa.IxS
open Go.Proofs.Ytohmbmjneainbaa.IxQ Go.Proofs.Ytohmbmjneainbaa.IxR
open Go.RowKit Go.Proofs.YtohmbmjneainbaaW.PrintWords Go.Proofs.YtohmbmjneainbaaW.PrintLast Go.Proofs.YtohmbmjneainbaaW.PrintMore Go.Proofs.Ytohmbmjneainbaa.QB Go.Proofs.Ytohmbmjneainbaa.Uv Go.Proofs.Ytohmbmjneainbaa.UvP Go.Proofs.Ytohmbmjneainbaa.IxP Go.Proofs.Ytohmbmjneainbaa.IrW
set_option linter.unusedVariables false
set_option linter.unusedSimpArgs false

theorem short_j1 {k : Nat} (hk : 400000 < k) (hk2 : k ≤ 900000) {l : List S42} (ho : ∀ x ∈ l, okEntry x) (hl : l.length ≤ 16384) (hne : l.length ≠ 0) (h0 : chk [] l = 0) (a : Int) : thermographlaw08_IndexShort.j1 (k + 1) l a (encL l) 0 false = some true := by
  have hg := chk_good l _ h0
  have w1 : wrap64 ((l.length : Int) - 1) = ((l.length - 1 : Nat) : Int) := by unfold wrap64; omega
  have p1 := chk_take l _ (l.length - 1) h0
  have r1 := index_Encode_f (l := l.take (l.length - 1)) (k := k) (by rw [List.length_take]; omega) (by rw [List.length_take]; omega) (by omega)
  rw [if_pos p1] at r1
  have hlen : (l.take (l.length - 1)).length = l.length - 1 := by rw [List.length_take]; omega
  have hlast : l = l.take (l.length - 1) ++ [l[l.length - 1]] := by
    have h := List.take_concat_get (l := l) (i := l.length - 1) (by omega)
    rw [show l.length - 1 + 1 = l.length by omega, List.take_length, List.concat_eq_append] at h
    exact h.symm
  obtain ⟨l', hl'⟩ : ∃ l', l.take (l.length - 1) = l' := ⟨_, rfl⟩
  obtain ⟨x, hx⟩ : ∃ x, l[l.length - 1] = x := ⟨_, rfl⟩
  rw [hl'] at p1 r1 hlen hlast
  rw [hx] at hlast
  have hxl : x ∈ l := by rw [← hx]; exact List.getElem_mem _
  have hgx := hg x hxl
  have hox := ho x hxl
  have hl'o : ∀ y ∈ l', okEntry y := fun y hy => ho y (by rw [hlast]; exact List.mem_append.2 (.inl hy))
  have hl'g := chk_good l' _ p1
  have hb' := bytes_encL l'
  have s1 := encL_length (l := l') hl'g
  have s2 := enc1_length hgx
  have s3 := enc1_pos x
  have he : encL l = encL l' ++ enc1 x := by rw [hlast, encL_append]; simp [encL]
  have q1 := listed_enc h0 ho
  have q2 := listed_enc p1 hl'o
  have hbl := bytes_encL l
  have hlL : (encL l).length = (encL l').length + (enc1 x).length := by rw [he, List.length_append]
  have b1 : (0 : Int) ≤ ((l.length - 1 : Nat) : Int) := by clear w1; omega
  have b2 : ((l.length - 1 : Nat) : Int) ≤ (l.length : Int) := by clear w1; omega
  have b3 : (encL l').length < (encL l).length := by clear w1; omega
  have b4 : (encL l).length ≤ 1000000 := by clear w1; omega
  obtain ⟨e1, q, hq1, hq2, e2⟩ := place2 a (encL l').length (encL l).length b3 b4
  rw [thermographlaw08_IndexShort.j1, if_neg (by decide), w1, if_pos b1, if_pos b2, Int.toNat_natCast, hl', r1]
  simp only [Option.bind_some]
  rw [e1, e2]
  have c1 : ¬ ((encL l).length : Int) ≤ ((encL l').length : Int) := by clear e1 e2 w1; omega
  have c2 : ¬ (((encL l).length - (encL l').length : Nat) : Int) = 0 := by clear e1 e2 w1; omega
  have c3 : (0 : Int) ≤ (((encL l').length + q : Nat) : Int) := by clear e1 e2 w1; omega
  have c4 : (((encL l').length + q : Nat) : Int) ≤ ((encL l).length : Int) := by clear e1 e2 w1; omega
  have c5 : (encL l).length ≤ 1000000 := by clear e1 e2 w1; omega
  have c6 : (encL l').length ≤ 1000000 := by clear e1 e2 w1; omega
  rw [if_neg c1, if_neg c2, if_pos c3, if_pos c4, Int.toNat_natCast]
  have ht : (encL l).take ((encL l').length + q) = encL l' ++ (enc1 x).take q := by rw [he, List.take_length_add_append]
  have hbt : Bytes ((encL l).take ((encL l').length + q)) := fun y hy => hbl y (List.mem_of_mem_take hy)
  have hq2' : q ≤ (enc1 x).length := by clear e1 e2 w1; omega
  rw [index_List.f_eq hbt (by rw [List.length_take]; clear e1 e2 w1; omega), index_List.f_eq hb' c6]
  simp only [Option.bind_some]
  rw [q2]
  simp only [errOf, Option.getD_some, if_true]
  by_cases hq : q = (enc1 x).length
  · have ht2 : (encL l).take ((encL l').length + q) = encL l := by rw [List.take_of_length_le]; clear e1 e2 w1; omega
    rw [ht2, q1]
    have d1 : ((((encL l').length + q : Nat) : Int) == ((encL l).length : Int)) = true := by rw [beq_iff_eq]; clear e1 e2 w1; omega
    rw [d1]
    simp [hlen]
  · have ht3 : (enc1 x).take q ≠ [] := by
      intro e
      have h := congrArg List.length e
      rw [List.length_take, List.length_nil] at h
      clear e1 e2 w1
      omega
    have hnone := rdEntry_short hgx hox (p := (enc1 x).take q) (r := (enc1 x).drop q) (List.take_append_drop q _).symm (by
      intro e
      have h := congrArg List.length e
      rw [List.length_drop, List.length_nil] at h
      clear e1 e2 w1
      omega)
    have hls := listed_short (l := l') (fun y hy => ⟨hl'g y hy, hl'o y hy⟩) (fun y hy => bytes_enc1 x y (List.mem_of_mem_take hy)) ht3 hnone
    rw [ht, hls]
    have d1 : ((((encL l').length + q : Nat) : Int) == ((encL l).length : Int)) = false := by rw [beq_eq_false_iff_ne]; clear e1 e2 w1; omega
    rw [d1]
    simp [hlen]
theorem IndexShort_pure {k : Nat} (hk : 400000 < k) (hk2 : k ≤ 900000) (l : List S42) (ho : ∀ x ∈ l, okEntry x) (a : Int) : thermographlaw08_IndexShort.f (k + 2) l a = some true := by
  obtain ⟨b, hb, hl⟩ := heavy_f l (k := k + 2) (by omega)
  unfold thermographlaw08_IndexShort.f
  rw [hb]
  simp only [Option.bind_some]
  cases b with
  | true => rw [if_pos rfl, thermographlaw08_IndexShort.j0, if_pos rfl]
  | false =>
    have hl := hl rfl
    rw [if_neg (by simp), thermographlaw08_IndexShort.j0]
    by_cases hz : l.length = 0
    · rw [if_pos (by rw [hz]; rfl)]
    rw [if_neg (by simp; exact fun e => hz (by rw [e]; rfl))]
    have q1 := index_Encode_f (l := l) (k := k + 1) (by omega) (by omega) (by omega)
    have q2 := theirs_f (l := l) (k := k + 1) (by omega) (by omega)
    have q5 := ref_Check_f (l := l) (k := k + 1) (by omega) (by omega)
    simp only [q1, q2, q5, Option.bind_some]
    by_cases h0 : chk [] l = 0
    · rw [if_pos h0]
      simp only [h0, if_true]
      exact short_j1 hk hk2 ho hl hz h0 a
    · rw [if_neg h0]
      simp only [if_true]
      rw [thermographlaw08_IndexShort.j1, if_pos (by simpa using h0), if_neg h0]
      rfl
theorem IndexShort_calls (W : World) (a0 : Option Addr) (cap0 : Nat) (l0 : List S42) (hc0 : l0.length ≤ cap0) (hr0 : Kd.C k42 W a0 l0.length l0) (hw0 : ∀ x ∈ l0, okEntry x) (hs0 : l0.length * 40 ≤ 140737488351232) (a1 : Int) (hw1 : (Lit.int .i64 a1).wf = true) :
    Calls Try.prog 6 #[.slice a0 l0.length cap0, .int .i64 a1] W fun e w' => e = .returned (.bool true) ∧ Below W.heap.size W w' :=
  thermographlaw08_IndexShort.calls (800000 + 2) a0 cap0 l0 a1 true W hr0 hc0 (IndexShort_pure (by omega) (by omega) l0 hw0 a1)
end Go.Proofs.Ytohmbmjneainbaa.IxS
