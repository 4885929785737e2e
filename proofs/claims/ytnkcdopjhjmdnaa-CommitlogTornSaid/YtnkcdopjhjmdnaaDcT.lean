/- Plain lemmas for the law CommitlogTorn: what is decoded of records that are cut off anywhere. -/
import Derived.Test.YtnkcdopjhjmdnaaDcR
import Derived.Test.YtnkcdopjhjmdnaaOp
import Derived.Test.YtnkcdopjhjmdnaaQBx11
import Derived.Test.YtnkcdopjhjmdnaaQBx14
namespace Go.Proofs.Ytnkcdopjhjmdnaa.DcQ
open Go.RowKit Go.Proofs.YtnkcdopjhjmdnaaW.PrintWords Go.Proofs.YtnkcdopjhjmdnaaW.PrintLast Go.Proofs.YtnkcdopjhjmdnaaW.PrintMore Go.Proofs.Ytnkcdopjhjmdnaa.QB Go.Proofs.Ytnkcdopjhjmdnaa.Uv Go.Proofs.Ytnkcdopjhjmdnaa.UvP Go.Proofs.Ytnkcdopjhjmdnaa.CeW Go.Proofs.Ytnkcdopjhjmdnaa.CfW Go.Proofs.Ytnkcdopjhjmdnaa.CpP Go.Proofs.Ytnkcdopjhjmdnaa.CoW Go.Proofs.Ytnkcdopjhjmdnaa.DcP
set_option linter.unusedVariables false
set_option linter.unusedSimpArgs false

theorem ref_l0 (B : List Int) (hB : Bytes B) (hBl : B.length ≤ 1000000) {t : List Int} (hn : None_ t) : ∀ (l : List S32) (k at_ : Nat) (acc : List S32), (∀ x ∈ l, GoodS x) → l.length < k → at_ ≤ B.length → B.drop at_ = encA l ++ t → acc.length + l.length ≤ 1000000 →
    thermographref09_Decode.l0 k B acc (at_ : Int) = some (acc ++ l, ((at_ + (encA l).length : Nat) : Int)) := by
  intro l
  induction l with
  | nil =>
    intro k at_ acc hg hk hat hd ha
    obtain ⟨k, rfl⟩ : ∃ j, k = j + 1 := ⟨k - 1, by simp at hk; omega⟩
    rw [show encA ([] : List S32) ++ t = t from rfl] at hd
    have ht : Bytes t := by rw [← hd]; exact Bytes.drop hB _
    have htl : t.length ≤ 1000000 := by rw [← hd, List.length_drop]; omega
    rw [thermographref09_Decode.l0, if_pos (by omega), if_pos (by omega), Int.toNat_natCast, hd, thermographref09_one.f_eq ht htl]
    simp only [Option.bind_some]
    rw [if_pos (first_none ht hn).2, List.append_nil]
    rfl
  | cons x l ih =>
    intro k at_ acc hg hk hat hd ha
    obtain ⟨k, rfl⟩ : ∃ j, k = j + 1 := ⟨k - 1, by simp at hk; omega⟩
    rw [List.length_cons] at hk ha
    rw [encA_cons, List.append_assoc] at hd
    have hbd : Bytes (encS x ++ (encA l ++ t)) := by rw [← hd]; exact Bytes.drop hB _
    have hln := congrArg List.length hd
    rw [List.length_drop, List.length_append] at hln
    rw [thermographref09_Decode.l0, if_pos (by omega), if_pos (by omega), Int.toNat_natCast, hd, thermographref09_one.f_eq hbd (by rw [← hd, List.length_drop]; omega), (first_some (hg x List.mem_cons_self) (encA l ++ t)).2]
    have hp := encS_pos x
    simp only [Option.bind_some]
    have e1 : wrap64 ((at_ : Int) + ((encS x).length : Int)) = ((at_ + (encS x).length : Nat) : Int) := by unfold wrap64; omega
    have c1 : ¬ ((encS x).length : Int) = 0 := by clear e1; omega
    have c2 : acc.length < 2932031007402 := by clear e1; omega
    rw [if_neg c1, if_pos c2, e1]
    have h := ih k (at_ + (encS x).length) (acc ++ [x]) (fun y hy => hg y (List.mem_cons_of_mem _ hy)) (by clear e1; omega) (by clear e1; omega) (by rw [← List.drop_drop, hd, List.drop_left]) (by rw [List.length_append, List.length_singleton]; clear e1; omega)
    rw [List.append_assoc] at h
    rw [encA_cons, List.length_append, ← Nat.add_assoc]
    exact h
theorem ref_Decode_f {b : List Int} (hb : Bytes b) (hl : b.length ≤ 1000000) {k : Nat} (hk : b.length + 2 ≤ k) : thermographref09_Decode.f k b = some ((D b).1, (((D b).2 : Nat) : Int)) := by
  obtain ⟨l, t, e, hg, hn, hd⟩ := D_spec hb
  have hel := encA_len l
  have hbl := congrArg List.length e
  rw [List.length_append] at hbl
  unfold thermographref09_Decode.f
  have h := ref_l0 b hb hl hn l k 0 [] hg (by omega) (by omega) (by rw [List.drop_zero]; exact e) (by simp; omega)
  rw [hd]
  rw [List.nil_append, Nat.zero_add] at h
  exact h
theorem same_l0 (l : List S32) (hl : l.length ≤ 1000000) : ∀ (d i k : Nat), i + d = l.length → d < k → thermographlaw09_same.l0 k l l (i : Int) = some true := by
  intro d
  induction d with
  | zero =>
    intro i k hi hk
    obtain ⟨k, rfl⟩ : ∃ j, k = j + 1 := ⟨k - 1, by omega⟩
    rw [thermographlaw09_same.l0, if_neg (by omega)]
  | succ d ih =>
    intro i k hi hk
    obtain ⟨k, rfl⟩ : ∃ j, k = j + 1 := ⟨k - 1, by omega⟩
    have e1 : wrap64 ((i : Int) + 1) = ((i + 1 : Nat) : Int) := by unfold wrap64; omega
    have c1 : (i : Int) < (l.length : Int) := by clear e1; omega
    have c2 : (0 : Int) ≤ (i : Int) := by clear e1; omega
    rw [thermographlaw09_same.l0, if_pos c1, if_pos c2, if_pos c1, if_neg (by simp), e1]
    exact ih (i + 1) k (by clear e1; omega) (by clear e1; omega)
theorem same_f {l : List S32} (hl : l.length ≤ 1000000) {k : Nat} (hk : l.length < k) : thermographlaw09_same.f k l l = some true := by
  unfold thermographlaw09_same.f
  rw [if_pos rfl]
  exact same_l0 l hl l.length 0 k (by omega) hk
theorem D_len {b : List Int} (hb : Bytes b) : (D b).1.length ≤ b.length ∧ (D b).2 ≤ b.length := by
  obtain ⟨l, t, e, hg, hn, hd⟩ := D_spec hb
  have hel := encA_len l
  have hbl := congrArg List.length e
  rw [List.length_append] at hbl
  rw [hd]
  simp only
  omega
/-- What is decoded of bytes stands before what follows, whatever follows. -/
theorem D_take {a b : List Int} (ha : Bytes a) (hb : Bytes b) : D (a.take (D a).2 ++ b) = ((D a).1 ++ (D b).1, (D a).2 + (D b).2) := by
  obtain ⟨l, t, e, hg, hn, hd⟩ := D_spec ha
  rw [hd]
  simp only
  have h : a.take (encA l).length = encA l := by rw [e, List.take_left]
  rw [h, D_enc hg hb]
theorem bytes_of {l : List Int} (h : ∀ x ∈ l, (Lit.int .u8 x).wf = true) : Bytes l := fun x hx => by
  have h := h x hx
  simp [Lit.wf, IntKind.min, IntKind.max, IntKind.signed, IntKind.bits] at h
  omega
theorem none_nil : None_ [] := fun x t hg e => by
  have h := congrArg List.length e
  have := encS_pos x
  rw [List.length_append, List.length_nil] at h
  omega
theorem D_nil : D [] = ([], 0) := dec_none (fun x hx => by cases hx) none_nil _
end Go.Proofs.Ytnkcdopjhjmdnaa.DcQ
namespace Go.Proofs.Ytnkcdopjhjmdnaa.DcO
open Go.RowKit Go.Proofs.YtnkcdopjhjmdnaaW.PrintWords Go.Proofs.YtnkcdopjhjmdnaaW.PrintLast Go.Proofs.YtnkcdopjhjmdnaaW.PrintMore Go.Proofs.Ytnkcdopjhjmdnaa.QB Go.Proofs.Ytnkcdopjhjmdnaa.Uv Go.Proofs.Ytnkcdopjhjmdnaa.UvP Go.Proofs.Ytnkcdopjhjmdnaa.Op Go.Proofs.Ytnkcdopjhjmdnaa.DcQ
set_option linter.unusedVariables false
set_option linter.unusedSimpArgs false

def okP (x : S30) : Prop := (Lit.int .i64 x.f0).wf = true ∧ (Lit.int .u64 x.f1).wf = true ∧ (Lit.int .u64 x.f2).wf = true
def okR (x : S32) : Prop := (Lit.int .i64 x.f0).wf = true ∧ x.f1.size ≤ maxLen ∧ okP x.f2
theorem opens_point : Opens Try.prog 30 k30 okP :=
  opens_iso (g := fun p : Int × Int × Int => (⟨p.1, p.2.1, p.2.2⟩ : S30)) (fun _ => rfl)
    (opens_struct Try.underlying30 (by kernel_rfl) (opensFs_cons rfl (by kernel_rfl) (opens_int Try.underlying3) (opensFs_cons rfl (by kernel_rfl) (opens_int Try.underlying28) (opensFs_last rfl (by kernel_rfl) (opens_int Try.underlying28)))))
theorem opens_rec : Opens Try.prog 32 k32 okR :=
  opens_iso (g := fun p : Int × ByteArray × S30 => (⟨p.1, p.2.1, p.2.2⟩ : S32)) (fun _ => rfl)
    (opens_struct Try.underlying32 (by kernel_rfl) (opensFs_cons rfl (by kernel_rfl) (opens_int Try.underlying3) (opensFs_cons rfl (by kernel_rfl) (opens_string Try.underlying9) (opensFs_last rfl (by kernel_rfl) opens_point))))
theorem opens_recs : Opens Try.prog 23 (Kd.slice 32 k32) (fun l => ∀ x ∈ l, okR x) :=
  opens_slice Try.underlying23 (by kernel_rfl) opens_rec
theorem wf_u64 {x : Int} (h : (Lit.int .u64 x).wf = true) : 0 ≤ x ∧ x < 18446744073709551616 := by
  simp [Lit.wf, IntKind.min, IntKind.max, IntKind.signed, IntKind.bits] at h
  omega
end Go.Proofs.Ytnkcdopjhjmdnaa.DcO
namespace Go.Proofs.Ytnkcdopjhjmdnaa.DcT
open Go.RowKit Go.Proofs.YtnkcdopjhjmdnaaW.PrintWords Go.Proofs.YtnkcdopjhjmdnaaW.PrintLast Go.Proofs.YtnkcdopjhjmdnaaW.PrintMore Go.Proofs.Ytnkcdopjhjmdnaa.QB Go.Proofs.Ytnkcdopjhjmdnaa.Uv Go.Proofs.Ytnkcdopjhjmdnaa.UvP Go.Proofs.Ytnkcdopjhjmdnaa.CeW Go.Proofs.Ytnkcdopjhjmdnaa.CfW Go.Proofs.Ytnkcdopjhjmdnaa.CpP Go.Proofs.Ytnkcdopjhjmdnaa.CoW Go.Proofs.Ytnkcdopjhjmdnaa.DcP Go.Proofs.Ytnkcdopjhjmdnaa.DcQ Go.Proofs.Ytnkcdopjhjmdnaa.DcO
set_option linter.unusedVariables false
set_option linter.unusedSimpArgs false

/-- A proper beginning of a record is none. -/
theorem none_short {x : S32} (hx : GoodS x) {p r : List Int} (h : encS x = p ++ r) (hr : r ≠ []) : None_ p := by
  intro y t hy e
  have h1 := (first_some hx []).1
  have h2 := (first_some hy (t ++ r)).1
  rw [List.append_nil, h, e, List.append_assoc, h2] at h1
  simp only [Prod.mk.injEq] at h1
  have hl := congrArg List.length h
  rw [e, List.length_append, List.length_append] at hl
  have hp := List.length_pos_iff.2 hr
  have h6 := h1.2.2.2.2.2
  simp only [List.length_append] at h6
  omega
theorem D_cut {g : List S32} (hg : ∀ x ∈ g, GoodS x) {m : Nat} (hm : m < g.length) {p r : List Int} (h : encS g[m] = p ++ r) (hr : r ≠ []) : D (encA (g.take m) ++ p) = (g.take m, (encA (g.take m)).length) := by
  have hx : GoodS g[m] := hg _ (List.getElem_mem hm)
  have hb : Bytes p := fun y hy => (show Bytes (encS g[m]) from bytes_encR _ _ _ _ _) y (by rw [h]; exact List.mem_append.2 (.inl hy))
  rw [D_enc (fun y hy => hg y (List.mem_of_mem_take hy)) hb]
  have hn : D p = ([], 0) := dec_none hb (none_short hx h hr) _
  rw [hn]
  simp
theorem D_all {g : List S32} (hg : ∀ x ∈ g, GoodS x) : D (encA g) = (g, (encA g).length) := by
  have h := D_enc hg (t := []) (fun y hy => by cases hy)
  rw [List.append_nil, D_nil] at h
  rw [h]
  simp
/-- Where the records end. -/
def ends (g : List S32) : List Int := (List.range (g.length + 1)).map fun j => ((encA (g.take j)).length : Int)
theorem ends_nil : ends [] = [0] := rfl
theorem ends_len (g : List S32) : (ends g).length = g.length + 1 := by simp [ends]
theorem ends_at (g : List S32) {j : Nat} (h : j ≤ g.length) : rd (ends g) (j : Int) = ((encA (g.take j)).length : Int) := by
  rw [rd_nat (by rw [ends_len]; omega)]
  simp [ends]
theorem ends_snoc (g : List S32) (x : S32) : ends (g ++ [x]) = ends g ++ [((encA (g ++ [x])).length : Int)] := by
  unfold ends
  rw [List.length_append, List.length_singleton, List.range_succ, List.map_append]
  congr 1
  · apply List.map_congr_left
    intro j hj
    have hj := List.mem_range.1 hj
    rw [List.take_append_of_le_length (by omega)]
  · simp only [List.map_cons, List.map_nil]
    rw [List.take_of_length_le (by rw [List.length_append, List.length_singleton]; omega)]
theorem take_split (g : List S32) {m : Nat} (hm : m < g.length) : encA g = encA (g.take m) ++ (encS g[m] ++ encA (g.drop (m + 1))) := by
  conv => lhs; rw [← List.take_append_drop m g, List.drop_eq_getElem_cons hm]
  rw [encA_app, encA_cons]
theorem take_succ_len (g : List S32) {m : Nat} (hm : m < g.length) : (encA (g.take (m + 1))).length = (encA (g.take m)).length + (encS g[m]).length := by
  rw [List.take_succ_eq_append_getElem hm, encA_app, List.length_append]
  simp [encA]
theorem torn_l1 {g : List S32} (hg : ∀ x ∈ g, GoodS x) (hgl : g.length ≤ 1000) (hel : (encA g).length ≤ 1000000) (a : Nat) (ha : a ≤ (encA g).length) : ∀ (d m k : Nat), m + d = g.length → d + 5000 < k → (encA (g.take m)).length ≤ a →
    thermographlaw09_CommitlogTorn.l1 k (a : Int) (encA g) (ends g) g (m : Int) = some true := by
  have hba : Bytes ((encA g).take a) := Bytes.take (bytes_encA g) a
  have hla : ((encA g).take a).length ≤ 1000000 := by rw [List.length_take]; omega
  have hdec := Decode_f hba hla
  have c1 : (0 : Int) ≤ (a : Int) := Int.natCast_nonneg _
  have c2 : (a : Int) ≤ ((encA g).length : Int) := by omega
  have fin : ∀ m : Nat, m ≤ g.length → ∀ k : Nat, 4000 < k → D ((encA g).take a) = (g.take m, (encA (g.take m)).length) →
      (if (0 : Int) ≤ (a : Int) then (if (a : Int) ≤ ((encA g).length : Int) then ((commitlog_Decode.f ((encA g).take (a : Int).toNat)).bind fun bt => (if 0 ≤ (m : Int) then (if (m : Int) < ((ends g).length : Int) then (if bt.2 = (rd (ends g) (m : Int)) then (if (m : Int) ≤ (g.length : Int) then ((thermographlaw09_same.f k bt.1 (g.take (m : Int).toNat)).bind fun t => (some t)) else (none)) else (some false)) else (none)) else (none))) else (none)) else (none)) = some true := by
    intro m hm k hk hD
    have s1 := same_f (l := g.take m) (by rw [List.length_take]; omega) (k := k) (by rw [List.length_take]; omega)
    rw [if_pos c1, if_pos c2, Int.toNat_natCast, hdec, hD]
    simp only [Option.bind_some]
    rw [if_pos (Int.natCast_nonneg _), if_pos (by rw [ends_len]; omega), ends_at g hm, if_pos rfl, if_pos (by omega), Int.toNat_natCast, s1]
    rfl
  intro d
  induction d with
  | zero =>
    intro m k hm hk hle
    obtain ⟨k, rfl⟩ : ∃ j, k = j + 1 := ⟨k - 1, by omega⟩
    obtain rfl : m = g.length := by omega
    rw [List.take_length] at hle
    have e1 : wrap64 ((g.length : Int) + 1) = ((g.length + 1 : Nat) : Int) := by unfold wrap64; omega
    have c3 : ¬ ((g.length + 1 : Nat) : Int) < ((ends g).length : Int) := by rw [ends_len]; omega
    rw [thermographlaw09_CommitlogTorn.l1, e1, if_neg c3]
    refine fin g.length (Nat.le_refl _) k (by clear e1; omega) ?_
    rw [List.take_length, List.take_of_length_le (by clear e1; omega)]
    exact D_all hg
  | succ d ih =>
    intro m k hm hk hle
    obtain ⟨k, rfl⟩ : ∃ j, k = j + 1 := ⟨k - 1, by omega⟩
    have hlt : m < g.length := by omega
    have e1 : wrap64 ((m : Int) + 1) = ((m + 1 : Nat) : Int) := by unfold wrap64; omega
    have c3 : ((m + 1 : Nat) : Int) < ((ends g).length : Int) := by rw [ends_len]; clear e1; omega
    have c4 : (0 : Int) ≤ ((m + 1 : Nat) : Int) := Int.natCast_nonneg _
    have hts := take_succ_len g hlt
    rw [thermographlaw09_CommitlogTorn.l1, e1, if_pos c3, if_pos c4, ends_at g (by clear e1; omega)]
    by_cases hz : (encA (g.take (m + 1))).length ≤ a
    · rw [if_pos (by clear e1; omega)]
      exact ih (m + 1) k (by clear e1; omega) (by clear e1; omega) hz
    · rw [if_neg (by clear e1; omega)]
      refine fin m (by clear e1; omega) k (by clear e1; omega) ?_
      have hcut : (encA g).take a = encA (g.take m) ++ (encS g[m]).take (a - (encA (g.take m)).length) := by
        rw [take_split g hlt, List.take_append, List.take_of_length_le hle, List.take_append_of_le_length (by clear e1; omega)]
      rw [hcut]
      refine D_cut hg hlt (r := (encS g[m]).drop (a - (encA (g.take m)).length)) (List.take_append_drop _ _).symm ?_
      intro e
      have h := congrArg List.length e
      rw [List.length_drop, List.length_nil] at h
      clear e1
      omega
theorem tmod_range (a m : Int) (hm : 0 < m) : -m < a.tmod m ∧ a.tmod m < m := by
  rcases Int.lt_or_le a 0 with h | h
  · have h1 := Int.tmod_eq_emod_of_nonneg (a := -a) (b := m) (by omega)
    have h2 : a.tmod m = -((-a).tmod m) := by rw [Int.neg_tmod]; omega
    have h3 := Int.emod_nonneg (-a) (show m ≠ 0 by omega)
    have h4 := Int.emod_lt_of_pos (-a) hm
    omega
  · rw [Int.tmod_eq_emod_of_nonneg h]
    have h3 := Int.emod_nonneg a (show m ≠ 0 by omega)
    have h4 := Int.emod_lt_of_pos a hm
    omega
theorem place (a : Int) (n : Nat) (hn : n ≤ 1000000) : ∃ j : Nat, j ≤ n ∧ wrap64 ((n : Int) + 1) = (n : Int) + 1 ∧
    Int.tmod (wrap64 (wrap64 (Int.tmod a ((n : Int) + 1) + (n : Int)) + 1)) ((n : Int) + 1) = (j : Int) := by
  obtain ⟨h1, h2⟩ := tmod_range a ((n : Int) + 1) (by omega)
  have e1 : wrap64 (wrap64 (Int.tmod a ((n : Int) + 1) + (n : Int)) + 1) = Int.tmod a ((n : Int) + 1) + (n : Int) + 1 := by unfold wrap64; omega
  have e2 : wrap64 ((n : Int) + 1) = (n : Int) + 1 := by unfold wrap64; omega
  rw [e1, e2, Int.tmod_eq_emod_of_nonneg (by omega)]
  have h3 := Int.emod_nonneg (Int.tmod a ((n : Int) + 1) + (n : Int) + 1) (show (n : Int) + 1 ≠ 0 by omega)
  have h4 := Int.emod_lt_of_pos (Int.tmod a ((n : Int) + 1) + (n : Int) + 1) (show (0 : Int) < (n : Int) + 1 by omega)
  exact ⟨((Int.tmod a ((n : Int) + 1) + (n : Int) + 1) % ((n : Int) + 1)).toNat, by omega, rfl, by omega⟩
theorem code_good {x : S32} (ho : okR x) (h : (encE x.f0 x.f1 x.f2.f0 x.f2.f1 x.f2.f2).2 = 0) : GoodS x ∧ (encE x.f0 x.f1 x.f2.f0 x.f2.f1 x.f2.f2).1 = encS x := by
  have hv := wf_u64 ho.2.2.2.1
  have hs := wf_u64 ho.2.2.2.2
  obtain ⟨x0, x1, ⟨x2, x3, x4⟩⟩ := x
  simp only at h hv hs ⊢
  obtain ⟨v, rfl⟩ : ∃ n : Nat, x3 = (n : Int) := ⟨x3.toNat, by omega⟩
  obtain ⟨s, rfl⟩ : ∃ n : Nat, x4 = (n : Int) := ⟨x4.toNat, by omega⟩
  have hsp : ∃ n m : Nat, x0 = (n : Int) ∧ x2 = (m : Int) := by
    unfold encE at h
    split at h
    · cases h
    · exact ⟨x0.toNat, x2.toNat, by omega, by omega⟩
  obtain ⟨n, m, rfl, rfl⟩ := hsp
  have hg := encE_zero (by omega) (by omega) h
  rw [encE_good hg]
  exact ⟨⟨n, x1, m, v, s, hg, rfl⟩, (encS_rec n x1 m v s).symm⟩
theorem encS_le {x : S32} (h : GoodS x) : (encS x).length ≤ 76 := by
  obtain ⟨n, id, m, v, s, hg, rfl⟩ := h
  have hb := body_length hg
  have u : (uv (bodyR n id m v s).length).length ≤ 10 := uv_length10 (by omega)
  rw [encS_rec, encR_length]
  omega
theorem encA_le : ∀ {g : List S32}, (∀ x ∈ g, GoodS x) → (encA g).length ≤ 76 * g.length
  | [], _ => by simp [encA]
  | x :: t, h => by
    have h1 := encS_le (h x List.mem_cons_self)
    have h2 := encA_le (g := t) (fun y hy => h y (List.mem_cons_of_mem _ hy))
    rw [encA_cons, List.length_append, List.length_cons]
    omega
theorem torn_l0 {l : List S32} (ho : ∀ x ∈ l, okR x) (hl : l.length ≤ 128) (a : Int) : ∀ (d i k : Nat) (g : List S32), i + d = l.length → d + 20000 < k → k ≤ 800000 → (∀ x ∈ g, GoodS x) → g.length ≤ i →
    thermographlaw09_CommitlogTorn.l0 k l a (encA g) (ends g) g (i : Int) = some true := by
  intro d
  induction d with
  | zero =>
    intro i k g hi hk hk2 hg hgl
    obtain ⟨k, rfl⟩ : ∃ j, k = j + 1 := ⟨k - 1, by omega⟩
    have hle := encA_le hg
    obtain ⟨j, hj, ew, ej⟩ := place a (encA g).length (by omega)
    have c1 : ¬ (i : Int) < (l.length : Int) := by clear ew ej; omega
    have c2 : ¬ ((encA g).length : Int) + 1 = 0 := by clear ew ej; omega
    rw [thermographlaw09_CommitlogTorn.l0, if_neg c1, ew, if_neg c2, ej]
    exact torn_l1 hg (by clear ew ej; omega) (by clear ew ej; omega) j hj g.length 0 k (by clear ew ej; omega) (by clear ew ej; omega) (by simp [encA])
  | succ d ih =>
    intro i k g hi hk hk2 hg hgl
    obtain ⟨k, rfl⟩ : ∃ j, k = j + 1 := ⟨k - 1, by omega⟩
    obtain ⟨k, rfl⟩ : ∃ j, k = j + 2 := ⟨k - 2, by omega⟩
    have hlt : i < l.length := by omega
    have hle := encA_le hg
    have hx := ho _ (List.getElem_mem hlt)
    have hv := wf_u64 hx.2.2.2.1
    have hs := wf_u64 hx.2.2.2.2
    have hr : rd_T32 l (i : Int) = l[i] := by
      unfold rd_T32
      rw [Int.toNat_natCast, List.getD_eq_getElem?_getD, List.getElem?_eq_getElem hlt]
      rfl
    have p2 := ref_Encode_f (sp := l[i].f0) (id := l[i].f1) (t := l[i].f2.f0) hv hs (k := k) (by omega) (by omega)
    have e1 : wrap64 ((i : Int) + 1) = ((i + 1 : Nat) : Int) := by unfold wrap64; omega
    have c1 : (i : Int) < (l.length : Int) := by clear e1; omega
    have c2 : (0 : Int) ≤ (i : Int) := Int.natCast_nonneg _
    rw [thermographlaw09_CommitlogTorn.l0, if_pos c1, if_pos c2, hr, commitlog_Encode.f_eq hv hs]
    simp only [Option.bind_some]
    rw [p2]
    simp only [Option.bind_some, if_true]
    by_cases hz : (encE l[i].f0 l[i].f1 l[i].f2.f0 l[i].f2.f1 l[i].f2.f2).2 = 0
    · obtain ⟨hgx, hex⟩ := code_good hx hz
      have hel := encS_le hgx
      have c3 : (encA g).length + (encS l[i]).length < 140737488355328 := by clear e1; omega
      have c4 : (ends g).length < 17592186044416 := by rw [ends_len]; clear e1; omega
      have c5 : g.length < 2932031007402 := by clear e1; omega
      have e5 : encA g ++ encS l[i] = encA (g ++ [l[i]]) := by rw [encA_app]; simp [encA]
      rw [if_pos hz, hex, if_pos c3, if_pos c4, if_pos c5, e1, e5, ← ends_snoc]
      have h := ih (i + 1) (k + 2) (g ++ [l[i]]) (by clear e1; omega) (by clear e1; omega) (by clear e1; omega) (fun y hy => by
        rcases List.mem_append.1 hy with hy | hy
        · exact hg y hy
        · rw [List.mem_singleton] at hy; subst hy; exact hgx) (by rw [List.length_append, List.length_singleton]; clear e1; omega)
      exact h
    · rw [if_neg hz, e1]
      exact ih (i + 1) (k + 2) g (by clear e1; omega) (by clear e1; omega) (by clear e1; omega) hg (by clear e1; omega)
theorem CommitlogTorn_pure {l : List S32} (ho : ∀ x ∈ l, okR x) (a : Int) : thermographlaw09_CommitlogTorn.f 700000 l a = some true := by
  unfold thermographlaw09_CommitlogTorn.f
  by_cases z : (l.length : Int) > 128
  · rw [if_pos z]
  · rw [if_neg z]
    exact torn_l0 ho (by omega) a l.length 0 700000 [] (by omega) (by omega) (by omega) (fun x hx => by cases hx) (Nat.le_refl _)
theorem CommitlogTorn_calls (W : World) (a0 : Option Addr) (cap0 : Nat) (l0 : List S32) (hc0 : l0.length ≤ cap0) (hr0 : Kd.C k32 W a0 l0.length l0) (hw0 : ∀ x ∈ l0, okR x) (hs0 : l0.length * 48 ≤ 140737488351232) (a1 : Int) (hw1 : (Lit.int .i64 a1).wf = true) :
    Calls Try.prog 5 #[.slice a0 l0.length cap0, .int .i64 a1] W fun e w' => e = .returned (.bool true) ∧ Below W.heap.size W w' :=
  thermographlaw09_CommitlogTorn.calls 700000 a0 cap0 l0 a1 true W hr0 hc0 (CommitlogTorn_pure hw0 a1)
end Go.Proofs.Ytnkcdopjhjmdnaa.DcT
