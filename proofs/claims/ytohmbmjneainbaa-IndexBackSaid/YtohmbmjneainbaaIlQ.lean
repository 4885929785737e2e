/- index.List as a Lean function laid by hand (a stand-in for the printer), and that the call comes to just that. -/
import Derived.Test.YtohmbmjneainbaaIlW
namespace Go.Proofs.Ytohmbmjneainbaa.QB
open Go.RowKit Go.Proofs.YtohmbmjneainbaaW.PrintWords Go.Proofs.YtohmbmjneainbaaW.PrintLast Go.Proofs.YtohmbmjneainbaaW.PrintMore Go.Proofs.Ytohmbmjneainbaa.Uv Go.Proofs.Ytohmbmjneainbaa.UvP Go.Proofs.Ytohmbmjneainbaa.Sl Go.Proofs.Ytohmbmjneainbaa.IrW
set_option linter.unusedVariables false
set_option linter.unusedSimpArgs false

def index_List.f (l0 : List Int) : Option ((List (S42)) × Int) := if l0.length ≤ 1000000 ∧ (l0.all fun x => decide (0 ≤ x ∧ x < 256)) = true then some ((listed l0).getD [], errOf (listed l0)) else none
theorem index_List.calls (A0 : Option Addr) (c0 : Nat) (l0 : List Int) (r1 : List (S42)) (r2 : Int) (w : World) (hr0 : Kd.C (Kd.int .u8) w A0 l0.length l0) (hc0 : l0.length ≤ c0) (h : index_List.f l0 = some (r1, r2)) :
    Calls Try.prog 15 #[.slice A0 l0.length c0] w fun e w' => ∃ v0_ : Value, e = .returned (.tuple #[v0_, .int .i64 r2]) ∧ Kd.R k42 42 w' w.heap.size (fun _ => True) v0_ r1 ∧ Below w.heap.size w w' := by
  unfold index_List.f at h
  split at h
  · rename_i hz
    have hb : Bytes l0 := fun x hx => by
      have := List.all_eq_true.1 hz.2 x hx
      simpa using this
    simp only [Option.some.injEq, Prod.mk.injEq] at h
    obtain ⟨rfl, rfl⟩ := h
    refine (List_calls w A0 c0 l0 hr0 hc0 hb hz.1).mono ?_
    rintro e w2 ⟨v, rfl, hs⟩
    obtain ⟨G, hg, _⟩ := hs.row
    exact ⟨v, rfl, Kd.R_mono hg (fun _ _ => trivial), hs.below⟩
  · cases h
theorem index_List.f_eq {l : List Int} (hb : Bytes l) (hl : l.length ≤ 1000000) : index_List.f l = some ((listed l).getD [], errOf (listed l)) := by
  unfold index_List.f
  rw [if_pos ⟨hl, List.all_eq_true.2 (fun x hx => by simpa using hb x hx)⟩]
end Go.Proofs.Ytohmbmjneainbaa.QB
