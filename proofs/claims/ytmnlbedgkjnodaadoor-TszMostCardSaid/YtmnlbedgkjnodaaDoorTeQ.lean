/- The call of tsz.Encode as a Lean function laid by hand (a stand-in for the printer). -/
import Derived.Test.YtmnlbedgkjnodaaDoorTeW
namespace Go.Proofs.YtmnlbedgkjnodaaDoor.QB
open Go.RowKit Go.Proofs.YtmnlbedgkjnodaaDoorW.PrintWords Go.Proofs.YtmnlbedgkjnodaaDoorW.PrintLast Go.Proofs.YtmnlbedgkjnodaaDoorW.PrintMore Go.Proofs.YtmnlbedgkjnodaaDoor.TeP
set_option linter.unusedVariables false
def tsz_Encode.f (l0 : List (S33)) : Option (List Int × Int) := if l0.length ≤ 1000000 ∧ (l0.all fun p => decide (okPt p)) = true then some (encT l0) else none
theorem tsz_Encode.f_eq {l : List (S33)} (hl : l.length ≤ 1000000) (hok : OkL l) : tsz_Encode.f l = some (encT l) := by
  unfold tsz_Encode.f
  rw [if_pos ⟨hl, List.all_eq_true.2 fun p hp => decide_eq_true (hok p hp)⟩]
theorem tsz_Encode.calls (A0 : Option Addr) (c0 : Nat) (l0 : List (S33)) (r1 : List Int) (r2 : Int) (w : World) (hr0 : Kd.C k33 w A0 l0.length l0) (hc0 : l0.length ≤ c0) (h : tsz_Encode.f l0 = some (r1, r2)) (hL : Ld.LaidW w) :
    Calls Tryd.prog 11 #[.slice A0 l0.length c0] w fun e w' => ∃ v0_ : Value, e = .returned (.tuple #[v0_, .int .i64 r2]) ∧ Kd.R (Kd.int .u8) 5 w' w.heap.size (fun _ => True) v0_ r1 ∧ Below w.heap.size w w' := by
  unfold tsz_Encode.f at h
  split at h
  · rename_i hc
    obtain ⟨hl, hall⟩ := hc
    have hok : OkL l0 := fun p hp => of_decide_eq_true (List.all_eq_true.1 hall p hp)
    have h := Option.some.inj h
    unfold encT at h
    by_cases hk : checkF l0 = 0
    · rw [if_pos hk] at h
      cases h
      refine (TeW.Encode_ok w A0 c0 l0 hr0 hc0 hk hok hL).mono ?_
      rintro e w' ⟨v, rfl, hs⟩
      obtain ⟨G, h1, h2⟩ := hs.get
      exact ⟨v, rfl, Kd.R_mono h1 (fun _ _ => trivial), hs.below⟩
    · rw [if_neg hk] at h
      cases h
      refine (TeW.Encode_bad w A0 c0 l0 hr0 hc0 hl hk).mono ?_
      rintro e w' ⟨rfl, hb⟩
      exact ⟨_, rfl, Kd.R_nil _ _ _ _ _, hb⟩
  · cases h
end Go.Proofs.YtmnlbedgkjnodaaDoor.QB
