/- Plain lemmas: the document's Decode, and the laws' comparison; the law CommitlogJoined. -/
import Derived.Test.YtnkcdopjhjmdnaaDcR
import Derived.Test.YtnkcdopjhjmdnaaQBx11
import Derived.Test.YtnkcdopjhjmdnaaQBx12
namespace Go.Proofs.Ytnkcdopjhjmdnaa.DcQ
open Go.RowKit Go.Proofs.YtnkcdopjhjmdnaaW.PrintWords Go.Proofs.YtnkcdopjhjmdnaaW.PrintLast Go.Proofs.YtnkcdopjhjmdnaaW.PrintMore Go.Proofs.Ytnkcdopjhjmdnaa.QB Go.Proofs.Ytnkcdopjhjmdnaa.Uv Go.Proofs.Ytnkcdopjhjmdnaa.UvP Go.Proofs.Ytnkcdopjhjmdnaa.CeW Go.Proofs.Ytnkcdopjhjmdnaa.CfW Go.Proofs.Ytnkcdopjhjmdnaa.CpP Go.Proofs.Ytnkcdopjhjmdnaa.CoW Go.Proofs.Ytnkcdopjhjmdnaa.DcP
set_option linter.unusedVariables false
set_option linter.unusedSimpArgs false

theorem ref_l0 (B : List Int) (hB : Bytes B) (hBl : B.length ≤ 1000000) {t : List Int} (hn : None_ t) : ∀ (l : List S32) (k at_ : Nat) (acc : List S32), (∀ x ∈ l, GoodS x) → l.length < k → at_ ≤ B.length → B.drop at_ = encA l ++ t → acc.length + l.length ≤ 1000000 →
    thermographref09_Decode.l0 k B acc (at_ : Int) = some (acc ++ l, ((at_ + (encA l).length : Nat) : Int)) := by
  intro l
  induction l with
  | nil =>
    intro k at_ acc hg hk hat hd ha
    obtain ⟨k, rfl⟩ : ∃ j, k = j + 1 := ⟨k - 1, by simp at hk; omega⟩
    rw [show encA ([] : List S32) ++ t = t from rfl] at hd
    have ht : Bytes t := by rw [← hd]; exact Bytes.drop hB _
    have htl : t.length ≤ 1000000 := by rw [← hd, List.length_drop]; omega
    rw [thermographref09_Decode.l0, if_pos (by omega), if_pos (by omega), Int.toNat_natCast, hd, thermographref09_one.f_eq ht htl]
    simp only [Option.bind_some]
    rw [if_pos (first_none ht hn).2, List.append_nil]
    rfl
  | cons x l ih =>
    intro k at_ acc hg hk hat hd ha
    obtain ⟨k, rfl⟩ : ∃ j, k = j + 1 := ⟨k - 1, by simp at hk; omega⟩
    rw [List.length_cons] at hk ha
    rw [encA_cons, List.append_assoc] at hd
    have hbd : Bytes (encS x ++ (encA l ++ t)) := by rw [← hd]; exact Bytes.drop hB _
    have hln := congrArg List.length hd
    rw [List.length_drop, List.length_append] at hln
    rw [thermographref09_Decode.l0, if_pos (by omega), if_pos (by omega), Int.toNat_natCast, hd, thermographref09_one.f_eq hbd (by rw [← hd, List.length_drop]; omega), (first_some (hg x List.mem_cons_self) (encA l ++ t)).2]
    have hp := encS_pos x
    simp only [Option.bind_some]
    have e1 : wrap64 ((at_ : Int) + ((encS x).length : Int)) = ((at_ + (encS x).length : Nat) : Int) := by unfold wrap64; omega
    have c1 : ¬ ((encS x).length : Int) = 0 := by clear e1; omega
    have c2 : acc.length < 2932031007402 := by clear e1; omega
    rw [if_neg c1, if_pos c2, e1]
    have h := ih k (at_ + (encS x).length) (acc ++ [x]) (fun y hy => hg y (List.mem_cons_of_mem _ hy)) (by clear e1; omega) (by clear e1; omega) (by rw [← List.drop_drop, hd, List.drop_left]) (by rw [List.length_append, List.length_singleton]; clear e1; omega)
    rw [List.append_assoc] at h
    rw [encA_cons, List.length_append, ← Nat.add_assoc]
    exact h
theorem ref_Decode_f {b : List Int} (hb : Bytes b) (hl : b.length ≤ 1000000) {k : Nat} (hk : b.length + 2 ≤ k) : thermographref09_Decode.f k b = some ((D b).1, (((D b).2 : Nat) : Int)) := by
  obtain ⟨l, t, e, hg, hn, hd⟩ := D_spec hb
  have hel := encA_len l
  have hbl := congrArg List.length e
  rw [List.length_append] at hbl
  unfold thermographref09_Decode.f
  have h := ref_l0 b hb hl hn l k 0 [] hg (by omega) (by omega) (by rw [List.drop_zero]; exact e) (by simp; omega)
  rw [hd]
  rw [List.nil_append, Nat.zero_add] at h
  exact h
theorem same_l0 (l : List S32) (hl : l.length ≤ 1000000) : ∀ (d i k : Nat), i + d = l.length → d < k → thermographlaw09_same.l0 k l l (i : Int) = some true := by
  intro d
  induction d with
  | zero =>
    intro i k hi hk
    obtain ⟨k, rfl⟩ : ∃ j, k = j + 1 := ⟨k - 1, by omega⟩
    rw [thermographlaw09_same.l0, if_neg (by omega)]
  | succ d ih =>
    intro i k hi hk
    obtain ⟨k, rfl⟩ : ∃ j, k = j + 1 := ⟨k - 1, by omega⟩
    have e1 : wrap64 ((i : Int) + 1) = ((i + 1 : Nat) : Int) := by unfold wrap64; omega
    have c1 : (i : Int) < (l.length : Int) := by clear e1; omega
    have c2 : (0 : Int) ≤ (i : Int) := by clear e1; omega
    rw [thermographlaw09_same.l0, if_pos c1, if_pos c2, if_pos c1, if_neg (by simp), e1]
    exact ih (i + 1) k (by clear e1; omega) (by clear e1; omega)
theorem same_f {l : List S32} (hl : l.length ≤ 1000000) {k : Nat} (hk : l.length < k) : thermographlaw09_same.f k l l = some true := by
  unfold thermographlaw09_same.f
  rw [if_pos rfl]
  exact same_l0 l hl l.length 0 k (by omega) hk
theorem D_len {b : List Int} (hb : Bytes b) : (D b).1.length ≤ b.length ∧ (D b).2 ≤ b.length := by
  obtain ⟨l, t, e, hg, hn, hd⟩ := D_spec hb
  have hel := encA_len l
  have hbl := congrArg List.length e
  rw [List.length_append] at hbl
  rw [hd]
  simp only
  omega
/-- What is decoded of bytes stands before what follows, whatever follows. -/
theorem D_take {a b : List Int} (ha : Bytes a) (hb : Bytes b) : D (a.take (D a).2 ++ b) = ((D a).1 ++ (D b).1, (D a).2 + (D b).2) := by
  obtain ⟨l, t, e, hg, hn, hd⟩ := D_spec ha
  rw [hd]
  simp only
  have h : a.take (encA l).length = encA l := by rw [e, List.take_left]
  rw [h, D_enc hg hb]
theorem bytes_of {l : List Int} (h : ∀ x ∈ l, (Lit.int .u8 x).wf = true) : Bytes l := fun x hx => by
  have h := h x hx
  simp [Lit.wf, IntKind.min, IntKind.max, IntKind.signed, IntKind.bits] at h
  omega
theorem CommitlogJoined_pure : thermographlaw09_CommitlogJoined.Pure := by
  intro l0 l1 _ _ hw0 _ _ hw1
  have h0 := bytes_of hw0
  have h1 := bytes_of hw1
  refine ⟨20000 + 1, ?_⟩
  unfold thermographlaw09_CommitlogJoined.f
  by_cases z0 : (l0.length : Int) > 4096
  · rw [if_pos z0, thermographlaw09_CommitlogJoined.j0, if_pos rfl]
  rw [if_neg z0]
  by_cases z1 : (l1.length : Int) > 4096
  · rw [decide_eq_true z1, thermographlaw09_CommitlogJoined.j0, if_pos rfl]
  rw [decide_eq_false z1, thermographlaw09_CommitlogJoined.j0, if_neg (by decide)]
  have q0 := D_len h0
  have q1 := D_len h1
  have hx : Bytes (l0.take (D l0).2 ++ l1) := bytes_app (Bytes.take h0 _) h1
  have hxl : (l0.take (D l0).2 ++ l1).length ≤ 1000000 := by rw [List.length_append, List.length_take]; omega
  have p0 := Decode_f h0 (by omega)
  have p1 := Decode_f h1 (by omega)
  have p2 := Decode_f hx hxl
  rw [D_take h0 h1] at p2
  have p3 := ref_Decode_f h0 (by omega) (k := 20000) (by omega)
  have s1 := same_f (l := (D l0).1 ++ (D l1).1) (by rw [List.length_append]; omega) (k := 20000) (by rw [List.length_append]; omega)
  have s2 := same_f (l := (D l0).1) (by omega) (k := 20000) (by omega)
  have e1 : wrap64 (((D l0).2 : Int) + ((D l1).2 : Int)) = (((D l0).2 + (D l1).2 : Nat) : Int) := by unfold wrap64; omega
  have c1 : (0 : Int) ≤ ((D l0).2 : Int) := Int.natCast_nonneg _
  have c2 : ((D l0).2 : Int) ≤ (l0.length : Int) := by clear e1; omega
  have c3 : ([] : List Int).length + (l0.take (D l0).2).length < 140737488355328 := by rw [List.length_take, List.length_nil]; clear e1; omega
  have c4 : (l0.take (D l0).2).length + l1.length < 140737488355328 := by rw [List.length_take]; clear e1; omega
  have c5 : ([] : List S32).length + (D l0).1.length < 2932031007402 := by rw [List.length_nil]; clear e1; omega
  have c6 : (D l0).1.length + (D l1).1.length < 2932031007402 := by clear e1; omega
  rw [p0]
  simp only [Option.bind_some]
  rw [p1]
  simp only [Option.bind_some, Int.toNat_natCast, List.nil_append]
  rw [if_pos c1, if_pos c2, if_pos c3]
  try simp only [Option.bind_some]
  rw [if_pos c4, p2]
  simp only [Option.bind_some]
  rw [p3]
  simp only [Option.bind_some]
  rw [if_pos c5]
  try simp only [Option.bind_some]
  rw [if_pos c6, e1, if_pos rfl, s1]
  simp only [Option.bind_some, if_true]
  rw [s2]
  rfl
end Go.Proofs.Ytnkcdopjhjmdnaa.DcQ
