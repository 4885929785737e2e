/- Plain lemmas: where an entry is found in an index with its own summary. The law IndexBack: what its printed function answers, and its call's contract. -/
import Derived.Test.YtohmbmjneainbaaIxR
import Derived.Test.YtohmbmjneainbaaIfQ
import Derived.Test.YtohmbmjneainbaaQBx22
namespace Go.Proofs.Ytohmbmjneainbaa.IxU
open Go.Proofs.Ytohmbmjneainbaa.IxQ Go.Proofs.Ytohmbmjneainbaa.IxR Go.Proofs.Ytohmbmjneainbaa.StrLq
open Go.RowKit Go.Proofs.YtohmbmjneainbaaW.PrintWords Go.Proofs.YtohmbmjneainbaaW.PrintLast Go.Proofs.YtohmbmjneainbaaW.PrintMore Go.Proofs.Ytohmbmjneainbaa.QB Go.Proofs.Ytohmbmjneainbaa.Uv Go.Proofs.Ytohmbmjneainbaa.UvP Go.Proofs.Ytohmbmjneainbaa.IxP Go.Proofs.Ytohmbmjneainbaa.IrW Go.Proofs.Ytohmbmjneainbaa.IfW
set_option linter.unusedVariables false
set_option linter.unusedSimpArgs false

theorem less_irr (a : List UInt8) : Op.bytesLess a a = false := by
  have h := less_or a a
  cases hl : Op.bytesLess a a with
  | false => rfl
  | true => rw [hl] at h; simp at h
theorem less_asym {a b : List UInt8} (h : Op.bytesLess a b = true) : Op.bytesLess b a = false := by
  have h2 := less_or a b
  rw [h] at h2
  simpa using h2
theorem less_ne {a b : List UInt8} (h : Op.bytesLess a b = true) : a ≠ b := fun e => by
  rw [e, less_irr] at h
  cases h
theorem less_cons (x y : UInt8) (s t : List UInt8) : Op.bytesLess (x :: s) (y :: t) = true ↔ x.toNat < y.toNat ∨ (x = y ∧ Op.bytesLess s t = true) := by
  simp only [Op.bytesLess]
  simp [UInt8.lt_iff_toNat_lt]
theorem less_trans : ∀ (a b c : List UInt8), Op.bytesLess a b = true → Op.bytesLess b c = true → Op.bytesLess a c = true := by
  intro a
  induction a with
  | nil =>
    intro b c h1 h2
    cases c with
    | nil => cases b <;> simp [Op.bytesLess] at h2
    | cons z u => rfl
  | cons x s ih =>
    intro b c h1 h2
    cases b with
    | nil => simp [Op.bytesLess] at h1
    | cons y t =>
      cases c with
      | nil => simp [Op.bytesLess] at h2
      | cons z u =>
        rw [less_cons] at h1 h2 ⊢
        rcases h1 with h1 | ⟨rfl, h1⟩
        · rcases h2 with h2 | ⟨rfl, h2⟩
          · exact .inl (by omega)
          · exact .inl h1
        · rcases h2 with h2 | ⟨rfl, h2⟩
          · exact .inl h2
          · exact .inr ⟨rfl, ih t u h1 h2⟩
theorem chk_all : ∀ (l : List S42) (last : List UInt8), chk last l = 0 → ∀ y ∈ l, Op.bytesLess last y.f0.toList = true
  | [], _, _, y, hy => by cases hy
  | x :: t, last, h, y, hy => by
    obtain ⟨_, h2, h3⟩ := chk_cons h
    rcases List.mem_cons.1 hy with rfl | hy
    · exact h2
    · exact less_trans _ _ _ h2 (chk_all t _ h3 y hy)
theorem chk_split : ∀ (L1 : List S42) (y : S42) (L2 : List S42) (last : List UInt8), chk last (L1 ++ y :: L2) = 0 →
    (∀ x ∈ L1, Op.bytesLess x.f0.toList y.f0.toList = true) ∧ (∀ x ∈ L2, Op.bytesLess y.f0.toList x.f0.toList = true)
  | [], y, L2, last, h => ⟨fun x hx => (by cases hx), chk_all L2 _ (chk_cons h).2.2⟩
  | z :: t, y, L2, last, h => by
    obtain ⟨_, h2, h3⟩ := chk_cons (show chk last (z :: (t ++ y :: L2)) = 0 from h)
    obtain ⟨i1, i2⟩ := chk_split t y L2 _ h3
    refine ⟨fun x hx => ?_, i2⟩
    rcases List.mem_cons.1 hx with rfl | hx
    · exact chk_all _ _ h3 y (List.mem_append.2 (.inr List.mem_cons_self))
    · exact i1 x hx
theorem chk_cut (id : List UInt8) : ∀ (l : List S42) (last : List UInt8), chk last l = 0 →
    ∃ A B, l = A ++ B ∧ (∀ x ∈ A, Op.bytesLess id x.f0.toList = false) ∧ (∀ x ∈ B, Op.bytesLess id x.f0.toList = true)
  | [], _, _ => ⟨[], [], rfl, fun x hx => (by cases hx), fun x hx => (by cases hx)⟩
  | x :: t, last, h => by
    obtain ⟨_, h2, h3⟩ := chk_cons h
    by_cases hx : Op.bytesLess id x.f0.toList = true
    · refine ⟨[], x :: t, rfl, fun x hx => (by cases hx), fun y hy => ?_⟩
      rcases List.mem_cons.1 hy with rfl | hy
      · exact hx
      · exact less_trans _ _ _ hx (chk_all t _ h3 y hy)
    · obtain ⟨A, B, e, h4, h5⟩ := chk_cut id t _ h3
      refine ⟨x :: A, B, by rw [e]; rfl, fun y hy => ?_, h5⟩
      rcases List.mem_cons.1 hy with rfl | hy
      · simpa using hx
      · exact h4 y hy
/-! The summary. -/
def stSpec (id : ByteArray) : Int → Nat → Nat → List S42 → Int
  | a, _, _, [] => a
  | a, i, n, x :: t => stSpec id (if i % 4 = 0 ∧ Op.bytesLess id.toList x.f0.toList = false then (n : Int) else a) (i + 1) (n + (enc1 x).length) t
theorem bytes_summ : ∀ (l : List S42) (i n : Nat), Bytes (summ i n l)
  | [], _, _ => fun x hx => by simp [summ] at hx
  | x :: t, i, n => by
    simp only [summ]
    refine Bytes.app ?_ (bytes_summ t _ _)
    split
    · exact Bytes.app (bytes_text _) (uv_bytes _)
    · exact fun x hx => by cases hx
theorem summ_length : ∀ (l : List S42) (i n : Nat), (∀ x ∈ l, GoodE x) → n + (encL l).length ≤ 1099511627776 → (summ i n l).length ≤ 27 * l.length
  | [], _, _, _, _ => by simp [summ]
  | x :: t, i, n, hg, hn => by
    rw [encL_cons, List.length_append] at hn
    have h1 := summ_length t (i + 1) (n + (enc1 x).length) (fun y hy => hg y (List.mem_cons_of_mem _ hy)) (by omega)
    have h2 := text_length (good_size (hg x List.mem_cons_self))
    have h3 := uv_len10 (n := n) (by omega)
    simp only [summ, List.length_append, List.length_cons]
    split
    · rw [List.length_append]; omega
    · simp only [List.length_nil]; omega
theorem good_one {x : S42} (hg : GoodE x) : 1 ≤ x.f0.size := by
  rcases Nat.eq_zero_or_pos x.f0.size with h | h
  · exact absurd (List.eq_nil_of_length_eq_zero (by rw [size_list, h])) (good_ne hg)
  · exact h
theorem stGo_summ (L : Nat) (hL : L ≤ 2147483647) (id : ByteArray) : ∀ (l : List S42) (i n : Nat) (a : Int) (k : Nat), (∀ x ∈ l, GoodE x) → n + (encL l).length ≤ L → (summ i n l).length < k →
    stGo L id k a (summ i n l) = stSpec id a i n l
  | [], i, n, a, k, _, _, hk => by
    obtain ⟨k, rfl⟩ : ∃ j, k = j + 1 := ⟨k - 1, by omega⟩
    simp [summ, stGo, stSpec]
  | x :: t, i, n, a, k, hg, hn, hk => by
    obtain ⟨k, rfl⟩ : ∃ j, k = j + 1 := ⟨k - 1, by omega⟩
    have hgt : ∀ y ∈ t, GoodE y := fun y hy => hg y (List.mem_cons_of_mem _ hy)
    have hx := hg x List.mem_cons_self
    rw [encL_cons, List.length_append] at hn
    simp only [summ] at hk ⊢
    simp only [stSpec]
    by_cases hi : i % 4 = 0
    · rw [if_pos hi] at hk ⊢
      have ht : (text x.f0) ≠ [] := by
        unfold text
        intro e
        exact uv_ne _ (List.append_eq_nil_iff.1 e).1
      have hpos := List.length_pos_iff.2 ht
      rw [List.length_append, List.length_append] at hk
      simp only [stGo]
      rw [if_neg (by intro e; exact ht (List.append_eq_nil_iff.1 (List.append_eq_nil_iff.1 e).1).1), List.append_assoc, rdName_text (good_one hx) (good_size hx)]
      simp only
      rw [rdNum_uv (by omega)]
      simp only
      rw [if_neg (by omega), stGo_summ L hL id t _ _ _ k hgt (by omega) (by omega)]
      congr 1
      by_cases hb : Op.bytesLess id.toList x.f0.toList = true
      · rw [if_pos hb, if_neg (by intro h; rw [h.2] at hb; cases hb)]
      · rw [if_neg hb, if_pos ⟨hi, by simpa using hb⟩]
    · rw [if_neg hi] at hk ⊢
      rw [if_neg (fun h => hi h.1)]
      exact stGo_summ L hL id t _ _ _ (k + 1) hgt (by omega) hk
theorem stF_summ {l : List S42} (hg : ∀ x ∈ l, GoodE x) (hl : (encL l).length ≤ 2147483647) (id : ByteArray) : stF (encL l).length id (summ 0 0 l) = stSpec id (-1) 0 0 l :=
  stGo_summ _ hl id l 0 0 (-1) _ hg (by omega) (by omega)
theorem stSpec_app (id : ByteArray) : ∀ (A B : List S42) (a : Int) (i n : Nat), stSpec id a i n (A ++ B) = stSpec id (stSpec id a i n A) (i + A.length) (n + (encL A).length) B
  | [], B, a, i, n => by simp [stSpec, encL]
  | x :: t, B, a, i, n => by
    simp only [List.cons_append, stSpec, encL_cons, List.length_append, List.length_cons]
    rw [stSpec_app id t B]
    congr 1 <;> omega
theorem stSpec_skip (id : ByteArray) : ∀ (B : List S42) (a : Int) (i n : Nat), (∀ x ∈ B, Op.bytesLess id.toList x.f0.toList = true) → stSpec id a i n B = a
  | [], a, i, n, _ => rfl
  | x :: t, a, i, n, h => by
    simp only [stSpec]
    rw [if_neg (by intro e; have := h x List.mem_cons_self; rw [e.2] at this; cases this)]
    exact stSpec_skip id t a _ _ (fun y hy => h y (List.mem_cons_of_mem _ hy))
theorem stSpec_few (id : ByteArray) : ∀ (D : List S42) (a : Int) (i n : Nat), 0 < i % 4 → i % 4 + D.length ≤ 4 → stSpec id a i n D = a
  | [], a, i, n, _, _ => rfl
  | x :: t, a, i, n, h1, h2 => by
    simp only [stSpec]
    rw [if_neg (by intro e; omega)]
    rw [List.length_cons] at h2
    cases t with
    | nil => rfl
    | cons y u =>
      rw [List.length_cons] at h2
      exact stSpec_few id (y :: u) a _ _ (by omega) (by rw [List.length_cons]; omega)
theorem stF_at {C D B : List S42} {q : Nat} (hg : ∀ x ∈ C ++ D ++ B, GoodE x) (hl : (encL (C ++ D ++ B)).length ≤ 2147483647) (id : ByteArray) (hC : C.length = 4 * q) (hD : 0 < D.length) (hD4 : D.length ≤ 4)
    (hA : ∀ x ∈ D, Op.bytesLess id.toList x.f0.toList = false) (hB : ∀ x ∈ B, Op.bytesLess id.toList x.f0.toList = true) :
    stF (encL (C ++ D ++ B)).length id (summ 0 0 (C ++ D ++ B)) = ((encL C).length : Int) := by
  rw [stF_summ hg hl, stSpec_app, stSpec_skip id B _ _ _ hB, stSpec_app]
  cases D with
  | nil => simp at hD
  | cons d D =>
    have hd := hA d List.mem_cons_self
    rw [List.length_cons] at hD4
    simp only [stSpec, Nat.zero_add]
    rw [hC, if_pos ⟨by omega, hd⟩]
    exact stSpec_few id D _ _ _ (by omega) (by omega)
theorem stF_none {B : List S42} (hg : ∀ x ∈ B, GoodE x) (hl : (encL B).length ≤ 2147483647) (id : ByteArray) (hB : ∀ x ∈ B, Op.bytesLess id.toList x.f0.toList = true) : stF (encL B).length id (summ 0 0 B) = -1 := by
  rw [stF_summ hg hl, stSpec_skip id B _ _ _ hB]
/-! The entries. -/
theorem enc1_ne (x : S42) (t : List Int) : enc1 x ++ t ≠ [] := fun e => by
  have h := congrArg List.length e
  have := enc1_pos x
  rw [List.length_append, List.length_nil] at h
  omega
theorem fdGo_found (id : ByteArray) : ∀ (D : List S42) (y : S42) (R : List S42) (k n : Nat), (∀ x ∈ D ++ [y], GoodE x ∧ okEntry x) → D.length + 1 ≤ k →
    (∀ x ∈ D, Op.bytesLess x.f0.toList id.toList = true) → y.f0.toList = id.toList → fdGo id k (n : Int) (encL (D ++ y :: R)) = (y, ((n + D.length + 1 : Nat) : Int), true)
  | [], y, R, k, n, hg, hk, _, hy => by
    obtain ⟨k, rfl⟩ : ∃ j, k = j + 1 := ⟨k - 1, by simp at hk; omega⟩
    have hyg := hg y (by simp)
    rw [List.nil_append, encL_cons]
    simp only [fdGo]
    rw [if_neg (enc1_ne _ _), rdEntry_enc hyg.1 hyg.2]
    simp only
    rw [if_pos hy]
    rfl
  | x :: t, y, R, k, n, hg, hk, hD, hy => by
    obtain ⟨k, rfl⟩ : ∃ j, k = j + 1 := ⟨k - 1, by simp at hk; omega⟩
    rw [List.length_cons] at hk
    have hxg := hg x (by simp)
    have hx := hD x List.mem_cons_self
    rw [List.cons_append, encL_cons]
    simp only [fdGo]
    rw [if_neg (enc1_ne _ _), rdEntry_enc hxg.1 hxg.2]
    simp only
    rw [if_neg (less_ne hx), if_neg (by rw [less_asym hx]; simp)]
    have h := fdGo_found id t y R k (n + 1) (fun z hz => hg z (by rw [List.cons_append]; exact List.mem_cons_of_mem _ hz)) (by omega) (fun z hz => hD z (List.mem_cons_of_mem _ hz)) hy
    rw [show ((n + 1 : Nat) : Int) = (n : Int) + 1 by omega] at h
    rw [h, List.length_cons, show n + 1 + t.length + 1 = n + (t.length + 1) + 1 by omega]
theorem fdGo_not (id : ByteArray) : ∀ (D B : List S42) (k n : Nat), (∀ x ∈ D ++ B, GoodE x ∧ okEntry x) → D.length ≤ k →
    (∀ x ∈ D, Op.bytesLess x.f0.toList id.toList = true) → (∀ x ∈ B, Op.bytesLess id.toList x.f0.toList = true) → ∃ (z : S42) (m : Nat), fdGo id k (n : Int) (encL (D ++ B)) = (z, (m : Int), false) ∧ m ≤ n + k
  | [], [], k, n, _, _, _, _ => by
    cases k with
    | zero => exact ⟨_, n, rfl, by omega⟩
    | succ k => exact ⟨zeroE, n, by simp [fdGo, encL], by omega⟩
  | [], b :: B, k, n, hg, _, _, hB => by
    cases k with
    | zero => exact ⟨_, n, rfl, by omega⟩
    | succ k =>
      have hbg := hg b (by simp)
      have hb := hB b List.mem_cons_self
      refine ⟨zeroE, n + 1, ?_, by omega⟩
      rw [List.nil_append, encL_cons]
      simp only [fdGo]
      rw [if_neg (enc1_ne _ _), rdEntry_enc hbg.1 hbg.2]
      simp only
      rw [if_neg (fun e => less_ne hb e.symm), if_pos hb]
      rfl
  | x :: t, B, k, n, hg, hk, hD, hB => by
    obtain ⟨k, rfl⟩ : ∃ j, k = j + 1 := ⟨k - 1, by simp at hk; omega⟩
    rw [List.length_cons] at hk
    have hxg := hg x (by simp)
    have hx := hD x List.mem_cons_self
    obtain ⟨z, m, h, hm⟩ := fdGo_not id t B k (n + 1) (fun z hz => hg z (by rw [List.cons_append]; exact List.mem_cons_of_mem _ hz)) (by omega) (fun z hz => hD z (List.mem_cons_of_mem _ hz)) hB
    refine ⟨z, m, ?_, by omega⟩
    rw [List.cons_append, encL_cons]
    simp only [fdGo]
    rw [if_neg (enc1_ne _ _), rdEntry_enc hxg.1 hxg.2]
    simp only
    rw [if_neg (less_ne hx), if_neg (by rw [less_asym hx]; simp)]
    rw [show ((n + 1 : Nat) : Int) = (n : Int) + 1 by omega] at h
    exact h
theorem fdF_found {L1 L2 : List S42} {y : S42} (h0 : chk [] (L1 ++ y :: L2) = 0) (ho : ∀ x ∈ L1 ++ y :: L2, okEntry x) (hl : (encL (L1 ++ y :: L2)).length ≤ 2147483647) (id : ByteArray) (hy : y.f0.toList = id.toList) :
    fdF (encL (L1 ++ y :: L2)) (summ 0 0 (L1 ++ y :: L2)) id = (y, ((L1.length % 4 + 1 : Nat) : Int), true) := by
  have hg := chk_good _ _ h0
  obtain ⟨s1, s2⟩ := chk_split L1 y L2 _ h0
  obtain ⟨C, D, hCD, hC, hD⟩ : ∃ C D, L1 = C ++ D ∧ C.length = 4 * (L1.length / 4) ∧ D.length = L1.length % 4 :=
    ⟨L1.take (4 * (L1.length / 4)), L1.drop (4 * (L1.length / 4)), (List.take_append_drop _ _).symm, by rw [List.length_take]; omega, by rw [List.length_drop]; omega⟩
  have e1 : L1 ++ y :: L2 = C ++ (D ++ [y]) ++ L2 := by rw [hCD]; simp
  have hDl : ∀ x ∈ D, Op.bytesLess x.f0.toList id.toList = true := fun x hx => by rw [← hy]; exact s1 x (by rw [hCD]; exact List.mem_append.2 (.inr hx))
  have hst := stF_at (C := C) (D := D ++ [y]) (B := L2) (q := L1.length / 4) (by rw [← e1]; exact hg) (by rw [← e1]; exact hl) id hC (by simp) (by rw [List.length_append, List.length_singleton]; omega)
    (fun x hx => by
      rcases List.mem_append.1 hx with hx | hx
      · exact less_asym (hDl x hx)
      · rw [List.mem_singleton] at hx; subst hx; rw [hy, less_irr])
    (fun x hx => by rw [← hy]; exact s2 x hx)
  rw [← e1] at hst
  unfold fdF
  rw [hst, if_neg (by omega), Int.toNat_natCast]
  have e2 : (encL (L1 ++ y :: L2)).drop (encL C).length = encL (D ++ y :: L2) := by
    rw [show L1 ++ y :: L2 = C ++ (D ++ y :: L2) by rw [hCD]; simp, encL_append, List.drop_left]
  rw [e2]
  have h := fdGo_found id D y L2 4 0 (fun x hx => ⟨hg x (by rw [e1]; exact List.mem_append.2 (.inl (List.mem_append.2 (.inr hx)))), ho x (by rw [e1]; exact List.mem_append.2 (.inl (List.mem_append.2 (.inr hx))))⟩) (by omega) hDl hy
  rw [show ((0 : Nat) : Int) = 0 from rfl] at h
  rw [h, hD, Nat.zero_add]
theorem fdF_not {l : List S42} (h0 : chk [] l = 0) (ho : ∀ x ∈ l, okEntry x) (hl : (encL l).length ≤ 2147483647) (id : ByteArray) (hn : ∀ x ∈ l, x.f0.toList ≠ id.toList) :
    ∃ (z : S42) (m : Nat), fdF (encL l) (summ 0 0 l) id = (z, ((m : Nat) : Int), false) ∧ m ≤ 4 := by
  have hg := chk_good _ _ h0
  obtain ⟨A, B, e, hA, hB⟩ := chk_cut id.toList l _ h0
  subst e
  by_cases hz : A = []
  · subst hz
    rw [List.nil_append] at hg hl ⊢
    unfold fdF
    rw [stF_none hg hl id hB, if_pos (by omega)]
    exact ⟨_, 0, rfl, by omega⟩
  · have hpos : 0 < A.length := List.length_pos_iff.2 hz
    obtain ⟨C, D, hCD, hC, hD1, hD4⟩ : ∃ C D, A = C ++ D ∧ C.length = 4 * ((A.length - 1) / 4) ∧ 0 < D.length ∧ D.length ≤ 4 :=
      ⟨A.take (4 * ((A.length - 1) / 4)), A.drop (4 * ((A.length - 1) / 4)), (List.take_append_drop _ _).symm, by rw [List.length_take]; omega, by rw [List.length_drop]; omega, by rw [List.length_drop]; omega⟩
    subst hCD
    have hst := stF_at (C := C) (D := D) (B := B) hg hl id hC hD1 hD4 (fun x hx => hA x (List.mem_append.2 (.inr hx))) hB
    unfold fdF
    rw [hst, if_neg (by omega), Int.toNat_natCast]
    have e2 : (encL (C ++ D ++ B)).drop (encL C).length = encL (D ++ B) := by rw [List.append_assoc, encL_append, List.drop_left]
    rw [e2]
    have hmem : ∀ x ∈ D ++ B, x ∈ C ++ D ++ B := fun x hx => by rw [List.append_assoc]; exact List.mem_append.2 (.inr hx)
    obtain ⟨z, m, h, hm⟩ := fdGo_not id D B 4 0 (fun x hx => ⟨hg x (hmem x hx), ho x (hmem x hx)⟩) hD4
      (fun x hx => by
        have h1 := less_or x.f0.toList id.toList
        rw [hA x (List.mem_append.2 (.inr hx))] at h1
        have h2 := hn x (hmem x (List.mem_append.2 (.inl hx)))
        have h3 : (x.f0.toList == id.toList) = false := by rw [beq_eq_false_iff_ne]; exact h2
        rw [h3] at h1
        simpa using h1) hB
    exact ⟨z, m, h, by omega⟩
end Go.Proofs.Ytohmbmjneainbaa.IxU
namespace Go.Proofs.Ytohmbmjneainbaa.IxV
open Go.Proofs.Ytohmbmjneainbaa.IxQ Go.Proofs.Ytohmbmjneainbaa.IxR Go.Proofs.Ytohmbmjneainbaa.IxU
open Go.RowKit Go.Proofs.YtohmbmjneainbaaW.PrintWords Go.Proofs.YtohmbmjneainbaaW.PrintLast Go.Proofs.YtohmbmjneainbaaW.PrintMore Go.Proofs.Ytohmbmjneainbaa.QB Go.Proofs.Ytohmbmjneainbaa.Uv Go.Proofs.Ytohmbmjneainbaa.UvP Go.Proofs.Ytohmbmjneainbaa.IxP Go.Proofs.Ytohmbmjneainbaa.IrW Go.Proofs.Ytohmbmjneainbaa.IfW
set_option linter.unusedVariables false
set_option linter.unusedSimpArgs false

/-- Is the name among these? -/
def among (id : ByteArray) (l : List S42) : Bool := l.any fun x => x.f0.toList == id.toList
theorem among_true {id : ByteArray} {l : List S42} (h : among id l = true) : ∃ y ∈ l, y.f0.toList = id.toList := by
  unfold among at h
  obtain ⟨y, hy, he⟩ := List.any_eq_true.1 h
  exact ⟨y, hy, by simpa using he⟩
theorem among_false {id : ByteArray} {l : List S42} (h : among id l = false) : ∀ y ∈ l, y.f0.toList ≠ id.toList := by
  intro y hy e
  unfold among at h
  rw [List.any_eq_false] at h
  exact h y hy (by simpa using e)
theorem among_step (id : ByteArray) (l : List S42) (i : Nat) (h : i < l.length) : among id (l.take (i + 1)) = (among id (l.take i) || (l[i].f0.toList == id.toList)) := by
  unfold among
  rw [List.take_succ_eq_append_getElem h, List.any_append]
  simp
theorem back_l0 {l : List S42} (ho : ∀ x ∈ l, okEntry x) (hl : l.length ≤ 16384) (h0 : chk [] l = 0) (id : ByteArray) : ∀ (d i k : Nat), i + d = l.length → d < k →
    thermographlaw08_IndexBack.l0 k l id (encL l) (summ 0 0 l) (among id (l.take i)) (i : Int) = some true := by
  have hg := chk_good l _ h0
  have s1 := encL_length hg
  have s2 := summ_length l 0 0 hg (by omega)
  have b1 := bytes_encL l
  have b2 := bytes_summ l 0 0
  have hf := fun a2 : ByteArray => index_Find.f_eq b1 (by omega) b2 (by omega) a2
  have hl2 : (encL l).length ≤ 2147483647 := by omega
  clear s1 s2
  intro d
  induction d with
  | zero =>
    intro i k hi hk
    obtain ⟨k, rfl⟩ : ∃ j, k = j + 1 := ⟨k - 1, by omega⟩
    rw [thermographlaw08_IndexBack.l0, if_neg (by omega), hf, show l.take i = l from List.take_of_length_le (by omega)]
    simp only [Option.bind_some]
    cases ha : among id l with
    | true =>
      obtain ⟨y, hy, he⟩ := among_true ha
      obtain ⟨L1, L2, e⟩ := List.append_of_mem hy
      subst e
      have h := fdF_found h0 ho hl2 id he
      rw [h]
      simp only
      rw [if_pos (by decide)]
      congr 1
      exact decide_eq_true (by omega)
    | false =>
      obtain ⟨z, m, h, hm⟩ := fdF_not h0 ho hl2 id (among_false ha)
      rw [h]
      simp only
      rw [if_pos (by decide)]
      congr 1
      exact decide_eq_true (by omega)
  | succ d ih =>
    intro i k hi hk
    obtain ⟨k, rfl⟩ : ∃ j, k = j + 1 := ⟨k - 1, by omega⟩
    have hlt : i < l.length := by omega
    have e1 : wrap64 ((i : Int) + 1) = ((i + 1 : Nat) : Int) := wrap_next hlt (by omega)
    have e2 : wrap64 (Int.tmod (i : Int) 4 + 1) = ((i % 4 + 1 : Nat) : Int) := by
      rw [Int.tmod_eq_emod_of_nonneg (by omega)]
      unfold wrap64
      clear e1
      omega
    have c0 : (i : Int) < (l.length : Int) := by clear e1 e2; omega
    have c1 : (0 : Int) ≤ (i : Int) := by clear e1 e2; omega
    have hstep := among_step id l i hlt
    have hih := ih (i + 1) k (by clear e1 e2; omega) (by clear e1 e2; omega)
    have hsp : l = l.take i ++ l[i] :: l.drop (i + 1) := by rw [← List.drop_eq_getElem_cons hlt, List.take_append_drop]
    have htl : (l.take i).length = i := by rw [List.length_take]; clear e1 e2; omega
    have hfd : fdF (encL l) (summ 0 0 l) l[i].f0 = (l[i], ((i % 4 + 1 : Nat) : Int), true) := by
      have h := fdF_found (L1 := l.take i) (L2 := l.drop (i + 1)) (y := l[i]) (by rw [← hsp]; exact h0) (by rw [← hsp]; exact ho) (by rw [← hsp]; exact hl2) l[i].f0 rfl
      rw [← hsp, htl] at h
      exact h
    rw [thermographlaw08_IndexBack.l0, if_pos c0, if_pos c1, rd_E hlt, hf, hfd]
    simp only [Option.bind_some]
    rw [if_pos trivial, if_neg (by simp), e2, if_pos rfl, e1]
    cases ha : among id (l.take i) with
    | true =>
      rw [ha, Bool.true_or] at hstep
      rw [hstep] at hih
      rw [if_pos rfl]
      exact hih
    | false =>
      rw [ha, Bool.false_or] at hstep
      rw [hstep] at hih
      rw [if_neg (by decide)]
      exact hih
theorem IndexBack_pure {k : Nat} (hk : 400000 < k) (hk2 : k ≤ 900000) {l : List S42} (ho : ∀ x ∈ l, okEntry x) (id : ByteArray) : thermographlaw08_IndexBack.f (k + 2) l id = some true := by
  obtain ⟨b, hb, hl⟩ := heavy_f l (k := k + 2) (by omega)
  unfold thermographlaw08_IndexBack.f
  rw [hb]
  simp only [Option.bind_some]
  cases b with
  | true => rw [if_pos rfl, thermographlaw08_IndexBack.j0, if_pos rfl]
  | false =>
    have hl := hl rfl
    rw [if_neg (by decide), thermographlaw08_IndexBack.j0]
    by_cases hz : ((id.size : Int) > 4096)
    · rw [if_pos (by simpa using hz)]
    rw [if_neg (by simpa using hz)]
    have q1 := index_Encode_f (l := l) (k := k + 1) (by omega) (by omega) (by omega)
    have q2 := theirs_f (l := l) (k := k + 1) (by omega) (by omega)
    have q5 := ref_Check_f (l := l) (k := k + 1) (by omega) (by omega)
    have q6 := same_f (l := l) (k := k + 1) (by omega) (by omega)
    simp only [q1, q2, q5, Option.bind_some]
    by_cases h0 : chk [] l = 0
    · have hg := chk_good l _ h0
      have s1 := encL_length hg
      rw [if_pos h0]
      simp only [h0, if_true]
      rw [index_List.f_eq (bytes_encL l) (by omega), listed_enc h0 ho]
      simp only [Option.bind_some, Option.getD_some, errOf, if_true]
      rw [q6]
      simp only [Option.bind_some, Bool.not_true]
      rw [thermographlaw08_IndexBack.j1, if_neg (by decide)]
      have h := back_l0 ho hl h0 id l.length 0 k (by omega) (by omega)
      exact h
    · rw [if_neg h0]
      simp only [h0, if_true, if_false]
      rfl
theorem IndexBack_calls (W : World) (a0 : Option Addr) (cap0 : Nat) (l0 : List S42) (hc0 : l0.length ≤ cap0) (hr0 : Kd.C k42 W a0 l0.length l0) (hw0 : ∀ x ∈ l0, okEntry x) (hs0 : l0.length * 40 ≤ 140737488351232) (a1 : ByteArray) (hz1 : a1.size ≤ maxLen) (hw1 : a1.size ≤ 140737488351232) :
    Calls Try.prog 7 #[.slice a0 l0.length cap0, .string a1] W fun e w' => e = .returned (.bool true) ∧ Below W.heap.size W w' :=
  thermographlaw08_IndexBack.calls (800000 + 2) a0 cap0 l0 a1 true W hr0 hc0 (IndexBack_pure (by omega) (by omega) hw0 a1)
end Go.Proofs.Ytohmbmjneainbaa.IxV
