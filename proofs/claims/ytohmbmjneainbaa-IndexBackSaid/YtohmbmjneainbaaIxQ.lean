/- Plain laws of layer 8: IndexEncodes, IndexJoined; and their calls. -/
import Derived.Test.YtohmbmjneainbaaIxP
import Derived.Test.YtohmbmjneainbaaOp
import Derived.Test.YtohmbmjneainbaaQBx12
import Derived.Test.YtohmbmjneainbaaQBx11
import Derived.Test.YtohmbmjneainbaaQBx14
import Derived.Test.YtohmbmjneainbaaQBx10
namespace Go.Proofs.Ytohmbmjneainbaa.IxQ
open Go.RowKit Go.Proofs.YtohmbmjneainbaaW.PrintWords Go.Proofs.YtohmbmjneainbaaW.PrintLast Go.Proofs.YtohmbmjneainbaaW.PrintMore Go.Proofs.Ytohmbmjneainbaa.QB Go.Proofs.Ytohmbmjneainbaa.Uv Go.Proofs.Ytohmbmjneainbaa.UvP Go.Proofs.Ytohmbmjneainbaa.UvR Go.Proofs.Ytohmbmjneainbaa.IxP Go.Proofs.Ytohmbmjneainbaa.Op
set_option linter.unusedVariables false
set_option linter.unusedSimpArgs false

theorem opens_entry : Opens Try.prog 42 k42 okEntry :=
  opens_iso (g := fun p : ByteArray × Int × Int × Int => (⟨p.1, p.2.1, p.2.2.1, p.2.2.2⟩ : S42)) (fun _ => rfl)
    (opens_struct Try.underlying42 (by kernel_rfl) (opensFs_cons rfl (by kernel_rfl) (opens_string Try.underlying9) (opensFs_cons rfl (by kernel_rfl) (opens_int Try.underlying3) (opensFs_cons rfl (by kernel_rfl) (opens_int Try.underlying3) (opensFs_last rfl (by kernel_rfl) (opens_int Try.underlying40))))))
theorem opens_entries : Opens Try.prog 22 (Kd.slice 42 k42) (fun l => ∀ x ∈ l, okEntry x) :=
  opens_slice Try.underlying22 (by kernel_rfl) opens_entry

theorem ref_uv {n : Int} {k : Nat} {l : List Int} (hn : 0 ≤ n ∧ n < 9223372036854775808) (hk : 10 ≤ k) (hk2 : k ≤ 1000000) (hl : l.length ≤ 140737480000000) : thermographref03_Uvarint.f k l (IntKind.u64.wrap n) = some (l ++ uv n.toNat) := by
  obtain ⟨m, rfl⟩ : ∃ m : Nat, n = (m : Int) := ⟨n.toNat, by omega⟩
  have e : IntKind.u64.wrap (m : Int) = (m : Int) := by rw [IntKind.wrap_u64]; omega
  rw [e, ref_Uvarint_f (by omega) hk hk2 hl]
  rfl
theorem ref_Text_f {s : ByteArray} {k : Nat} {l : List Int} (hs : s.size ≤ 16) (hk : 10 ≤ k) (hk2 : k ≤ 1000000) (hl : l.length ≤ 1099511627776) : thermographref08_Text.f k l s = some (l ++ text s) := by
  unfold thermographref08_Text.f
  rw [ref_uv (by omega) hk hk2 (by omega)]
  simp only [Option.bind_some, Int.toNat_natCast]
  have h1 := text_length hs
  have h2 := bytesOf_length s
  unfold text at h1 ⊢
  rw [List.length_append] at h1
  rw [if_pos (by rw [List.length_append]; omega), List.append_assoc]
theorem ref_one_f {x : S42} {k : Nat} {l : List Int} (hx : GoodE x) (hk : 10 ≤ k) (hk2 : k ≤ 1000000) (hl : l.length ≤ 1000000000) : thermographref08_one.f k l x.f0 x.f1 x.f2 x.f3 = some (l ++ enc1 x) := by
  have z1 := good_size hx
  have z2 := text_length z1
  have z3 := uv_len5 hx.2.1
  have z4 := uv_len5 hx.2.2
  have f1 := hx.2.1
  have f2 := hx.2.2
  unfold fit at f1 f2
  have q1 := ref_Text_f (k := k) (l := l) z1 hk hk2 (by omega)
  have q2 := ref_uv (k := k) (n := x.f1) (l := l ++ text x.f0) (by omega) hk hk2 (by rw [List.length_append]; omega)
  have q3 := ref_uv (k := k) (n := x.f2) (l := l ++ text x.f0 ++ uv x.f1.toNat) (by omega) hk hk2 (by rw [List.length_append, List.length_append]; omega)
  unfold thermographref08_one.f
  simp only [q1, q2, q3, Option.bind_some]
  rw [if_pos (by simp only [List.length_append, List.length_cons, List.length_nil]; omega)]
  simp [enc1, sum4]
theorem ref_Encode_l0 (l : List S42) (hl : l.length ≤ 100000) (hg : ∀ x ∈ l, GoodE x) : ∀ (d i k : Nat) (a s : List Int), i + d = l.length → d + 12 < k → k ≤ 1000000 → a.length ≤ 31 * i → s.length ≤ 31 * i →
    thermographref08_Encode.l0 k (l.map toR) a s (i : Int) = some (a ++ encL (l.drop i), s ++ summ i a.length (l.drop i), 0) := by
  intro d
  induction d with
  | zero =>
    intro i k a s hi hk hk2 ha hs
    obtain ⟨k, rfl⟩ : ∃ m, k = m + 1 := ⟨k - 1, by omega⟩
    simp only [thermographref08_Encode.l0, List.length_map]
    rw [if_neg (by omega), List.drop_eq_nil_of_le (by omega)]
    simp [encL, summ]
  | succ d ih =>
    intro i k a s hi hk hk2 ha hs
    obtain ⟨k, rfl⟩ : ∃ m, k = m + 1 := ⟨k - 1, by omega⟩
    have hlt : i < l.length := by omega
    have hw := wrap_next hlt (by omega)
    have hrd : rd_T49 (l.map toR) (i : Int) = toR l[i] := by rw [rd_R (by rw [List.length_map]; exact hlt)]; simp
    obtain ⟨x, hx⟩ : ∃ x, l[i] = x := ⟨_, rfl⟩
    have hgx : GoodE x := hx ▸ hg _ (List.getElem_mem hlt)
    have z1 := good_size hgx
    have z2 := text_length z1
    have z5 := enc1_length hgx
    have z6 := uv_len10 (n := a.length) (by omega)
    have e0 : (toR x).f0 = x.f0 := rfl
    have e1 : (toR x).f1 = x.f1 := rfl
    have e2 : (toR x).f2 = x.f2 := rfl
    have e3 : (toR x).f3 = x.f3 := rfl
    rw [List.drop_eq_getElem_cons hlt, hx, encL_cons]
    simp only [thermographref08_Encode.l0, summ, List.length_map]
    have c1 : (i : Int) < (l.length : Int) := by omega
    have c2 : (0 : Int) ≤ (i : Int) := by omega
    have c3 : Int.tmod (i : Int) 4 = 0 ↔ i % 4 = 0 := by rw [Int.tmod_eq_emod_of_nonneg c2]; omega
    have q4 := ref_one_f (k := k) (l := a) hgx (by omega) (by omega) (by omega)
    have hae : (a ++ enc1 x).length = a.length + (enc1 x).length := List.length_append
    rw [hrd, hx, hw, if_pos c1, e0, e1, e2, e3]
    by_cases h4 : i % 4 = 0
    · have q5 := ref_Text_f (k := k) (l := s) z1 (by omega) (by omega) (by omega)
      have q6 := ref_uv (k := k) (n := (a.length : Int)) (l := s ++ text x.f0) (by omega) (by omega) (by omega) (by rw [List.length_append]; omega)
      rw [Int.toNat_natCast] at q6
      have q7 := ih (i + 1) k (a ++ enc1 x) (s ++ text x.f0 ++ uv a.length) (by omega) (by omega) (by omega) (by omega) (by rw [List.length_append, List.length_append]; omega)
      rw [if_pos (c3.2 h4), if_pos h4, if_pos c2]
      simp only [q4, q5, q6, q7, Option.bind_some, hae]
      simp
    · have q7 := ih (i + 1) k (a ++ enc1 x) s (by omega) (by omega) (by omega) (by omega) (by omega)
      rw [if_neg (fun h => h4 (c3.1 h)), if_neg h4, if_pos c2]
      simp only [q4, q7, Option.bind_some, hae]
      simp
theorem ref_Encode_f {l : List S42} {k : Nat} (hl : l.length ≤ 100000) (hk : 3 * l.length + 12 < k) (hk2 : k ≤ 1000000) :
    thermographref08_Encode.f k (l.map toR) = some (if chk [] l = 0 then (encL l, summ 0 0 l, 0) else ([], [], chk [] l)) := by
  unfold thermographref08_Encode.f
  rw [ref_Check_f (by omega) (by omega)]
  simp only [Option.bind_some]
  by_cases h : chk [] l = 0
  · rw [if_pos h, if_pos h]
    have := ref_Encode_l0 l hl (chk_good l _ h) l.length 0 k [] [] (by omega) (by omega) hk2 (by simp) (by simp)
    simpa using this
  · rw [if_neg h, if_neg h]

theorem IndexEncodes_pure (l : List S42) : thermographlaw08_IndexEncodes.f 900000 l = some true := by
  obtain ⟨b, hb, hl⟩ := heavy_f l (k := 900000) (by omega)
  unfold thermographlaw08_IndexEncodes.f
  rw [hb]
  simp only [Option.bind_some]
  cases b with
  | true => rw [if_pos rfl]
  | false =>
    have hl := hl rfl
    have q1 := index_Encode_f (l := l) (k := 900000) (by omega) (by omega) (by omega)
    have q2 := theirs_f (l := l) (k := 900000) (by omega) (by omega)
    have q3 := ref_Encode_f (l := l) (k := 900000) (by omega) (by omega) (by omega)
    have q4 := index_Check_f (l := l) (k := 900000) (by omega) (by omega)
    have q5 := ref_Check_f (l := l) (k := 900000) (by omega) (by omega)
    have q6 := same_f (l := l) (k := 900000) (by omega) (by omega)
    rw [if_neg (by simp), if_pos (by simp; omega), List.nil_append]
    simp only [q1, q2, q3, q4, q5, q6, Option.bind_some, if_true]

theorem tmod_range (a m : Int) (hm : 0 < m) : -m < a.tmod m ∧ a.tmod m < m := by
  have h1 := Int.emod_nonneg a (show m ≠ 0 by omega)
  have h2 := Int.emod_lt_of_pos a hm
  rw [Int.tmod_eq_emod]
  split
  · omega
  · rename_i h
    have h3 : a % m ≠ 0 := fun e => h (.inr (Int.dvd_of_emod_eq_zero e))
    omega
/-- A place in a list, out of any number. -/
theorem place (a : Int) (n : Nat) (hn : n ≤ 1000000) : ∃ j : Nat, j ≤ n ∧ wrap64 ((n : Int) + 1) = (n : Int) + 1 ∧
    Int.tmod (wrap64 (wrap64 (Int.tmod a ((n : Int) + 1) + (n : Int)) + 1)) ((n : Int) + 1) = (j : Int) := by
  obtain ⟨h1, h2⟩ := tmod_range a ((n : Int) + 1) (by omega)
  have e1 : wrap64 (wrap64 (Int.tmod a ((n : Int) + 1) + (n : Int)) + 1) = Int.tmod a ((n : Int) + 1) + (n : Int) + 1 := by unfold wrap64; omega
  have e2 : wrap64 ((n : Int) + 1) = (n : Int) + 1 := by unfold wrap64; omega
  rw [e1, e2, Int.tmod_eq_emod_of_nonneg (by omega)]
  have h3 := Int.emod_nonneg (Int.tmod a ((n : Int) + 1) + (n : Int) + 1) (show (n : Int) + 1 ≠ 0 by omega)
  have h4 := Int.emod_lt_of_pos (Int.tmod a ((n : Int) + 1) + (n : Int) + 1) (show (0 : Int) < (n : Int) + 1 by omega)
  exact ⟨((Int.tmod a ((n : Int) + 1) + (n : Int) + 1) % ((n : Int) + 1)).toNat, by omega, rfl, by omega⟩
theorem str_append (a b : List Int) : ((strOfNums a) ++ (strOfNums b)).toList = (strOfNums (a ++ b)).toList := by
  rw [ByteArray.toList_eq, ByteArray.toList_eq]
  simp [strOfNums]
theorem summ_nil {l : List S42} (hg : ∀ x ∈ l, GoodE x) : (summ 0 0 l).length = 0 ↔ l.length = 0 := by
  cases l with
  | nil => simp [summ]
  | cons x t =>
    have := uv_pos x.f0.size
    simp only [summ, text, if_pos, Nat.zero_mod, List.length_append, List.length_cons]
    omega
theorem IndexJoined_pure (l : List S42) (a : Int) : thermographlaw08_IndexJoined.f 900000 l a = some true := by
  obtain ⟨b, hb, hl⟩ := heavy_f l (k := 900000) (by omega)
  unfold thermographlaw08_IndexJoined.f
  rw [hb]
  simp only [Option.bind_some]
  cases b with
  | true => rw [if_pos rfl]
  | false =>
    have hl := hl rfl
    have q1 := index_Encode_f (l := l) (k := 900000) (by omega) (by omega) (by omega)
    have q2 := theirs_f (l := l) (k := 900000) (by omega) (by omega)
    have q5 := ref_Check_f (l := l) (k := 900000) (by omega) (by omega)
    rw [if_neg (by simp)]
    simp only [q1, q2, q5, Option.bind_some]
    by_cases h0 : chk [] l = 0
    · have hg := chk_good l _ h0
      obtain ⟨j, hj, ew, ej⟩ := place a l.length (by omega)
      have p1 := chk_take l _ j h0
      have p2 := chk_drop l _ j h0
      have r1 := index_Encode_f (l := l.take j) (k := 900000) (by rw [List.length_take]; omega) (by rw [List.length_take]; omega) (by omega)
      have r2 := index_Encode_f (l := l.drop j) (k := 900000) (by rw [List.length_drop]; omega) (by rw [List.length_drop]; omega) (by omega)
      rw [if_pos p1] at r1
      rw [if_pos p2] at r2
      have s1 := encL_length (l := l.take j) (chk_good _ _ p1)
      have s2 := encL_length (l := l.drop j) (chk_good _ _ p2)
      rw [List.length_take] at s1
      rw [List.length_drop] at s2
      have he : encL l = encL (l.take j) ++ encL (l.drop j) := by rw [← encL_append, List.take_append_drop]
      have hn := summ_nil hg
      rw [if_pos h0, ew]
      simp only [h0, if_true]
      rw [if_neg (show ¬ (l.length : Int) + 1 = 0 by omega), ej, if_pos (by omega), if_pos (by omega), Int.toNat_natCast, r1]
      simp only [Option.bind_some]
      rw [r2]
      simp only [Option.bind_some, if_true]
      rw [if_pos (by rw [strOfNums_size, strOfNums_size]; omega), if_pos (by rw [str_append, he])]
      congr 1
      by_cases hz : l.length = 0
      · have hz2 := hn.2 hz
        simp [hz, hz2]
      · have hz2 : (summ 0 0 l).length ≠ 0 := fun e => hz (hn.1 e)
        have d1 : (((summ 0 0 l).length : Int) == 0) = false := by rw [beq_eq_false_iff_ne]; omega
        have d2 : ((l.length : Int) == 0) = false := by rw [beq_eq_false_iff_ne]; omega
        rw [d1, d2]
        rfl
    · rw [if_neg h0]
      simp only [h0, if_true, if_false]
      simp

theorem IndexEncodes_calls (W : World) (a0 : Option Addr) (cap0 : Nat) (l0 : List S42) (hc0 : l0.length ≤ cap0) (hr0 : Kd.C k42 W a0 l0.length l0) (hw0 : ∀ x ∈ l0, okEntry x) (hs0 : l0.length * 40 ≤ 140737488351232) :
    Calls Try.prog 4 #[.slice a0 l0.length cap0] W fun e w' => e = .returned (.bool true) ∧ Below W.heap.size W w' :=
  thermographlaw08_IndexEncodes.calls 900000 a0 cap0 l0 true W hr0 hc0 (IndexEncodes_pure l0)
theorem IndexJoined_calls (W : World) (a0 : Option Addr) (cap0 : Nat) (l0 : List S42) (hc0 : l0.length ≤ cap0) (hr0 : Kd.C k42 W a0 l0.length l0) (hw0 : ∀ x ∈ l0, okEntry x) (hs0 : l0.length * 40 ≤ 140737488351232) (a1 : Int) (hw1 : (Lit.int .i64 a1).wf = true) :
    Calls Try.prog 3 #[.slice a0 l0.length cap0, .int .i64 a1] W fun e w' => e = .returned (.bool true) ∧ Below W.heap.size W w' :=
  thermographlaw08_IndexJoined.calls 900000 a0 cap0 l0 a1 true W hr0 hc0 (IndexJoined_pure l0 a1)
end Go.Proofs.Ytohmbmjneainbaa.IxQ
