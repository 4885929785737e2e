/- The document's ReadUvarint as a Lean function laid by hand (the printed one's proof does not go through), and that the call comes to just that. -/
import Derived.Test.YtnkcdopjhjmdnaaRuW
namespace Go.Proofs.Ytnkcdopjhjmdnaa.QB
open Go.RowKit Go.Proofs.YtnkcdopjhjmdnaaW.PrintWords Go.Proofs.YtnkcdopjhjmdnaaW.PrintLast Go.Proofs.YtnkcdopjhjmdnaaW.PrintMore Go.Proofs.Ytnkcdopjhjmdnaa.Uv Go.Proofs.Ytnkcdopjhjmdnaa.UvP Go.Proofs.Ytnkcdopjhjmdnaa.RuW
set_option linter.unusedVariables false
set_option linter.unusedSimpArgs false

def thermographref03_ReadUvarint.f (k : Nat) (l0 : List Int) : Option (Int × Int) := if l0.length ≤ 1099511627776 ∧ (l0.all fun x => decide (0 ≤ x ∧ x < 256)) = true then some (ruv l0) else none
theorem thermographref03_ReadUvarint.mono : ∀ a0 k, LeO (thermographref03_ReadUvarint.f k a0) (thermographref03_ReadUvarint.f (k + 1) a0) := fun _ _ _ h => h
theorem thermographref03_ReadUvarint.calls (k : Nat) (A0 : Option Addr) (c0 : Nat) (l0 : List Int) (r1 : Int) (r2 : Int) (w : World) (hr0 : Kd.C (Kd.int .u8) w A0 l0.length l0) (hc0 : l0.length ≤ c0) (h : thermographref03_ReadUvarint.f k l0 = some (r1, r2)) :
    Calls Try.prog 26 #[.slice A0 l0.length c0] w fun e w' => e = .returned (.tuple #[.int .u64 r1, .int .i64 r2]) ∧ Below w.heap.size w w' := by
  unfold thermographref03_ReadUvarint.f at h
  split at h
  · rename_i hz
    have hb : Bytes l0 := fun x hx => by
      have := List.all_eq_true.1 hz.2 x hx
      simpa using this
    have h2 : ruv l0 = (r1, r2) := Option.some.inj h
    have h3 := ref_Read_calls w A0 c0 l0 hr0 hc0 hb hz.1
    rw [h2] at h3
    exact h3
  · cases h
theorem thermographref03_ReadUvarint.f_eq {l : List Int} (hb : Bytes l) (hl : l.length ≤ 1099511627776) (k : Nat) : thermographref03_ReadUvarint.f k l = some (ruv l) := by
  unfold thermographref03_ReadUvarint.f
  rw [if_pos ⟨hl, List.all_eq_true.2 (fun x hx => by simpa using hb x hx)⟩]
end Go.Proofs.Ytnkcdopjhjmdnaa.QB
