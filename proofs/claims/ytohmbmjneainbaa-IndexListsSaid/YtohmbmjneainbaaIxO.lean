/- Plain lemmas: the document's List of bytes is what index.List tells. -/
import Derived.Test.YtohmbmjneainbaaIxM
namespace Go.Proofs.Ytohmbmjneainbaa.IxL
open Go.RowKit Go.Proofs.YtohmbmjneainbaaW.PrintWords Go.Proofs.YtohmbmjneainbaaW.PrintLast Go.Proofs.YtohmbmjneainbaaW.PrintMore Go.Proofs.Ytohmbmjneainbaa.QB Go.Proofs.Ytohmbmjneainbaa.Uv Go.Proofs.Ytohmbmjneainbaa.UvP Go.Proofs.Ytohmbmjneainbaa.IxP Go.Proofs.Ytohmbmjneainbaa.IrW
set_option linter.unusedVariables false
set_option linter.unusedSimpArgs false

/-- What List tells of entries ahead and those that were read behind. -/
def told (l : List S42) (o : Option (List S42)) : List S49 × Int :=
  match o with
  | none => ([], 50)
  | some m => if chk [] (l ++ m) = 0 then ((l ++ m).map toR, 0) else ([], 50)
theorem told_cons (l : List S42) (x : S42) (o : Option (List S42)) : told l (o.map fun m => x :: m) = told (l ++ [x]) o := by
  cases o with
  | none => rfl
  | some m =>
    have e : l ++ x :: m = (l ++ [x]) ++ m := by simp
    show (if chk [] (l ++ x :: m) = 0 then ((l ++ x :: m).map toR, 0) else ([], 50)) = (if chk [] ((l ++ [x]) ++ m) = 0 then (((l ++ [x]) ++ m).map toR, 0) else ([], 50))
    rw [e]
theorem List_l0 : ∀ (k : Nat) (t : List Int) (l : List S42), Bytes t → t.length + l.length ≤ 1000000 → t.length + 3 * (t.length + l.length) + 5 < k → thermographref08_List.l0 k t (l.map toR) = some (told l (rdAll (t.length + 1) t)) := by
  intro k
  induction k with
  | zero => intro t l _ _ h; omega
  | succ k ih =>
    intro t l hb hn hk
    simp only [thermographref08_List.l0, rdAll]
    by_cases hz : t = []
    · rw [if_pos hz, hz, if_neg (by simp), ref_Check_f (by omega) (by omega)]
      simp only [Option.bind_some, told, List.append_nil]
      split <;> rfl
    · have hpos : 0 < t.length := List.length_pos_iff.2 hz
      rw [if_neg hz, if_pos (by omega)]
      cases he : rdEntry t with
      | none =>
        obtain ⟨a, c, d, e, hr⟩ := Read_no hb (by omega) he k
        rw [hr]
        simp only [Option.bind_some, Option.bind_none, if_true]
        rfl
      | some p =>
        obtain ⟨x, t'⟩ := p
        obtain ⟨hb', hless⟩ := rdEntry_less hb he
        obtain ⟨n, n1, n2, e, hr⟩ := Read_some hb (by omega) he k
        rw [hr]
        simp only [Option.bind_some]
        rw [if_neg (by omega), if_pos (by rw [List.length_map]; omega), if_pos (by omega), if_pos (by omega), Int.toNat_natCast, ← e, rdAll_more t.length (t'.length + 1) t' hb' hless (by omega), told_cons]
        have h := ih t' (l ++ [x]) hb' (by rw [List.length_append, List.length_singleton]; omega) (by rw [List.length_append, List.length_singleton]; omega)
        rw [List.map_append] at h
        exact h
theorem List_f {b : List Int} (hb : Bytes b) (hl : b.length ≤ 1000000) {k : Nat} (hk : 4 * b.length + 5 < k) : thermographref08_List.f k b = some (((listed b).getD []).map toR, errOf (listed b)) := by
  unfold thermographref08_List.f
  have h := List_l0 k b [] hb (by simp; omega) (by simp; omega)
  rw [List.map_nil] at h
  rw [h]
  unfold listed
  cases rdAll (b.length + 1) b with
  | none => rfl
  | some m =>
    simp only [told, List.nil_append, Option.bind_some]
    split <;> rfl
end Go.Proofs.Ytohmbmjneainbaa.IxL
