/- Plain lemmas: what is encoded is read back; what is cut short is not. -/
import Derived.Test.YtohmbmjneainbaaIxQ
import Derived.Test.YtohmbmjneainbaaIlQ
namespace Go.Proofs.Ytohmbmjneainbaa.IxR
open Go.Proofs.Ytohmbmjneainbaa.IxQ
open Go.RowKit Go.Proofs.YtohmbmjneainbaaW.PrintWords Go.Proofs.YtohmbmjneainbaaW.PrintLast Go.Proofs.YtohmbmjneainbaaW.PrintMore Go.Proofs.Ytohmbmjneainbaa.QB Go.Proofs.Ytohmbmjneainbaa.Uv Go.Proofs.Ytohmbmjneainbaa.UvP Go.Proofs.Ytohmbmjneainbaa.IxP Go.Proofs.Ytohmbmjneainbaa.IrW
set_option linter.unusedVariables false
set_option linter.unusedSimpArgs false

theorem Bytes.app {a b : List Int} (ha : Bytes a) (hb : Bytes b) : Bytes (a ++ b) := fun x hx => (List.mem_append.1 hx).elim (ha x) (hb x)
theorem Bytes.left {a b : List Int} (h : Bytes (a ++ b)) : Bytes a := fun x hx => h x (List.mem_append.2 (.inl hx))
theorem bytes_str (s : ByteArray) : Bytes (bytesOf s) := fun x hx => by
  unfold bytesOf at hx
  obtain ⟨b, _, rfl⟩ := List.mem_map.1 hx
  have := b.toNat_lt
  omega
theorem str_back (s : ByteArray) : strOfNums (bytesOf s) = s := by
  have h : (s.data.toList.map fun b => ((b.toNat : Nat) : Int)).map (fun n => UInt8.ofNat n.toNat) = s.data.toList := by
    rw [List.map_map]
    conv => rhs; rw [← List.map_id s.data.toList]
    apply List.map_congr_left
    intro b _
    simp
  unfold bytesOf strOfNums
  rw [h]
theorem bytes_text (s : ByteArray) : Bytes (text s) := Bytes.app (uv_bytes _) (bytes_str s)
theorem bytes_sum4 (n : Int) : Bytes (sum4 n) := by
  intro x hx
  unfold sum4 at hx
  simp only [List.mem_cons, List.not_mem_nil, or_false] at hx
  rcases hx with rfl | rfl | rfl | rfl <;> omega
theorem bytes_enc1 (x : S42) : Bytes (enc1 x) := Bytes.app (Bytes.app (Bytes.app (bytes_text _) (uv_bytes _)) (uv_bytes _)) (bytes_sum4 _)
theorem bytes_encL : ∀ l : List S42, Bytes (encL l)
  | [] => fun x hx => by simp [encL] at hx
  | x :: t => by rw [encL_cons]; exact Bytes.app (bytes_enc1 x) (bytes_encL t)
theorem rdNum_uv {v : Nat} (hv : v ≤ 2147483647) (t : List Int) : rdNum (uv v ++ t) = some (v, t) := by
  unfold rdNum
  have hp := uv_pos v
  rw [ruv_uv (by omega), if_neg (by simp only; omega)]
  simp
theorem rdNum_app {b : List Int} (hb : Bytes b) {v : Nat} {t : List Int} (h : rdNum b = some (v, t)) (r : List Int) : rdNum (b ++ r) = some (v, t ++ r) := by
  rcases ruv_cases hb with ⟨h1, _⟩ | ⟨w, u, h1, h2, h3⟩
  · unfold rdNum at h
    rw [h1] at h
    simp at h
  · unfold rdNum at h
    rw [h3] at h
    simp only at h
    split at h
    · cases h
    · rename_i hz
      simp only [Option.some.injEq, Prod.mk.injEq, Int.toNat_natCast] at h
      obtain ⟨rfl, rfl⟩ := h
      rw [h1, List.append_assoc, rdNum_uv (by omega)]
      congr 2
      simp
theorem rdName_text {s : ByteArray} (h0 : 1 ≤ s.size) (h1 : s.size ≤ 16) (t : List Int) : rdName (text s ++ t) = some (s, t) := by
  unfold rdName text
  rw [List.append_assoc, rdNum_uv (by omega)]
  simp only [Option.bind_some]
  have hl := bytesOf_length s
  rw [if_neg (by rw [List.length_append]; omega), List.take_left' hl, List.drop_left' hl, str_back]
theorem rdName_app {b : List Int} (hb : Bytes b) {s : ByteArray} {t : List Int} (h : rdName b = some (s, t)) (r : List Int) : rdName (b ++ r) = some (s, t ++ r) := by
  unfold rdName at h ⊢
  cases hn : rdNum b with
  | none => rw [hn] at h; cases h
  | some p =>
    obtain ⟨v, u⟩ := p
    rw [hn] at h
    rw [rdNum_app hb hn]
    simp only [Option.bind_some] at h ⊢
    split at h
    · cases h
    · rename_i hz
      simp only [Option.some.injEq, Prod.mk.injEq] at h
      obtain ⟨rfl, rfl⟩ := h
      rw [if_neg (by rw [List.length_append]; omega), List.take_append_of_le_length (by omega), List.drop_append_of_le_length (by omega)]
theorem rdEntry_app {b : List Int} (hb : Bytes b) {x : S42} {t : List Int} (h : rdEntry b = some (x, t)) (r : List Int) : rdEntry (b ++ r) = some (x, t ++ r) := by
  unfold rdEntry at h ⊢
  cases h1 : rdName b with
  | none => rw [h1] at h; cases h
  | some p1 =>
  obtain ⟨s, t1⟩ := p1
  rw [h1] at h
  have hb1 := (rdName_bytes hb h1).1
  rw [rdName_app hb h1]
  simp only [Option.bind_some] at h ⊢
  cases h2 : rdNum t1 with
  | none => rw [h2] at h; cases h
  | some p2 =>
  obtain ⟨n1, t2⟩ := p2
  rw [h2] at h
  have hb2 := (rdNum_bytes hb1 h2).1
  rw [rdNum_app hb1 h2]
  simp only [Option.bind_some] at h ⊢
  cases h3 : rdNum t2 with
  | none => rw [h3] at h; cases h
  | some p3 =>
  obtain ⟨n2, t3⟩ := p3
  rw [h3] at h
  rw [rdNum_app hb2 h3]
  simp only [Option.bind_some] at h ⊢
  split at h
  · cases h
  · rename_i hz
    simp only [Option.some.injEq, Prod.mk.injEq] at h
    obtain ⟨rfl, rfl⟩ := h
    rw [if_neg (by rw [List.length_append]; omega), List.take_append_of_le_length (by omega), List.drop_append_of_le_length (by omega)]
theorem big_sum4 {n : Int} (h0 : 0 ≤ n) (h1 : n < 4294967296) : ((big (sum4 n) : Nat) : Int) = n := by
  obtain ⟨m, rfl⟩ : ∃ m : Nat, n = (m : Int) := ⟨n.toNat, by omega⟩
  simp only [big, sum4, List.foldl]
  omega
theorem rdEntry_enc {x : S42} (hg : GoodE x) (ho : okEntry x) (t : List Int) : rdEntry (enc1 x ++ t) = some (x, t) := by
  have hs := sum_range ho
  have h16 := good_size hg
  have h1 : 1 ≤ x.f0.size := by
    rcases Nat.eq_zero_or_pos x.f0.size with h | h
    · exact absurd (List.eq_nil_of_length_eq_zero (by rw [size_list, h])) (good_ne hg)
    · exact h
  have hf1 := hg.2.1
  have hf2 := hg.2.2
  unfold fit at hf1 hf2
  unfold rdEntry enc1
  rw [List.append_assoc, List.append_assoc, List.append_assoc, rdName_text h1 h16]
  simp only [Option.bind_some]
  rw [rdNum_uv (by omega)]
  simp only [Option.bind_some]
  rw [rdNum_uv (by omega)]
  simp only [Option.bind_some]
  have h4 : (sum4 x.f3).length = 4 := rfl
  rw [if_neg (by rw [List.length_append, h4]; omega), List.take_left' h4, List.drop_left' h4, big_sum4 hs.1 hs.2, Int.toNat_of_nonneg hf1.1, Int.toNat_of_nonneg hf2.1]
theorem rdEntry_short {x : S42} (hg : GoodE x) (ho : okEntry x) {p r : List Int} (h : enc1 x = p ++ r) (hr : r ≠ []) : rdEntry p = none := by
  cases he : rdEntry p with
  | none => rfl
  | some q =>
    obtain ⟨y, t⟩ := q
    have hb : Bytes p := Bytes.left (b := r) (h ▸ bytes_enc1 x)
    have h1 := rdEntry_app hb he r
    have h2 := rdEntry_enc hg ho []
    rw [List.append_nil, h, h1] at h2
    simp only [Option.some.injEq, Prod.mk.injEq, List.append_eq_nil_iff] at h2
    exact absurd h2.2.2 hr
theorem enc1_pos (x : S42) : 0 < (enc1 x).length := by
  unfold enc1
  rw [List.length_append]
  have : (sum4 x.f3).length = 4 := rfl
  omega
theorem rdAll_enc : ∀ (l : List S42) (n m : Nat) (t : List Int), (∀ x ∈ l, GoodE x ∧ okEntry x) → Bytes t → (encL l ++ t).length < n → t.length < m → rdAll n (encL l ++ t) = (rdAll m t).map (l ++ ·)
  | [], n, m, t, _, hb, h1, h2 => by
    rw [show encL [] ++ t = t from rfl] at h1 ⊢
    rw [rdAll_more n m t hb h1 h2]
    cases rdAll m t <;> rfl
  | x :: l, n, m, t, hg, hb, h1, h2 => by
    obtain ⟨n, rfl⟩ : ∃ j, n = j + 1 := ⟨n - 1, by omega⟩
    have hx := hg x List.mem_cons_self
    have hp := enc1_pos x
    rw [encL_cons, List.append_assoc, List.length_append] at h1
    rw [encL_cons, List.append_assoc]
    simp only [rdAll]
    rw [if_neg (by intro e; have := congrArg List.length e; rw [List.length_append, List.length_nil] at this; omega), rdEntry_enc hx.1 hx.2]
    simp only [Option.bind_some]
    rw [rdAll_enc l n m t (fun y hy => hg y (List.mem_cons_of_mem _ hy)) hb (by omega) h2, Option.map_map]
    rfl
theorem listed_enc {l : List S42} (h0 : chk [] l = 0) (ho : ∀ x ∈ l, okEntry x) : listed (encL l) = some l := by
  have hg := chk_good l _ h0
  unfold listed
  have h := rdAll_enc l ((encL l).length + 1) 1 [] (fun x hx => ⟨hg x hx, ho x hx⟩) (fun x hx => by cases hx) (by rw [List.append_nil]; omega) (by simp)
  rw [List.append_nil] at h
  rw [h]
  simp only [rdAll, if_true, Option.map_some, List.append_nil, Option.bind_some]
  rw [if_pos h0]
theorem listed_short {l : List S42} (h0 : ∀ x ∈ l, GoodE x ∧ okEntry x) {p : List Int} (hb : Bytes p) (hp : p ≠ []) (hn : rdEntry p = none) : listed (encL l ++ p) = none := by
  unfold listed
  rw [rdAll_enc l _ (p.length + 1) p h0 hb (by omega) (by omega)]
  simp only [rdAll]
  rw [if_neg hp, hn]
  rfl
theorem place2 (a : Int) (B A : Nat) (h : B < A) (hA : A ≤ 1000000) : wrap64 ((A : Int) - (B : Int)) = ((A - B : Nat) : Int) ∧ ∃ q : Nat, 1 ≤ q ∧ q ≤ A - B ∧
    wrap64 (wrap64 ((B : Int) + 1) + Int.tmod (wrap64 (wrap64 (Int.tmod a ((A - B : Nat) : Int) + (A : Int)) - (B : Int))) ((A - B : Nat) : Int)) = ((B + q : Nat) : Int) := by
  obtain ⟨D, hD⟩ : ∃ D, A - B = D := ⟨_, rfl⟩
  rw [hD]
  have hAB : A = B + D := by omega
  subst hAB
  refine ⟨by unfold wrap64; omega, ?_⟩
  obtain ⟨h1, h2⟩ := tmod_range a (D : Int) (by omega)
  obtain ⟨M, hM⟩ : ∃ M, Int.tmod a (D : Int) = M := ⟨_, rfl⟩
  rw [hM] at h1 h2 ⊢
  have e1 : wrap64 (wrap64 (M + ((B + D : Nat) : Int)) - (B : Int)) = M + (D : Int) := by unfold wrap64; omega
  rw [e1, Int.tmod_eq_emod_of_nonneg (by omega)]
  have h3 := Int.emod_nonneg (M + (D : Int)) (show (D : Int) ≠ 0 by omega)
  have h4 := Int.emod_lt_of_pos (M + (D : Int)) (show (0 : Int) < (D : Int) by omega)
  obtain ⟨Z, hZ⟩ : ∃ Z, (M + (D : Int)) % (D : Int) = Z := ⟨_, rfl⟩
  rw [hZ] at h3 h4 ⊢
  refine ⟨Z.toNat + 1, by omega, by omega, ?_⟩
  have e2 : wrap64 ((B : Int) + 1) = (B : Int) + 1 := by unfold wrap64; omega
  rw [e2]
  have e3 : wrap64 ((B : Int) + 1 + Z) = (B : Int) + 1 + Z := by unfold wrap64; omega
  rw [e3]
  omega
end Go.Proofs.Ytohmbmjneainbaa.IxR
