/- The call of the document's Decode of points as a Lean function laid by hand (a stand-in for the printer).
   The call of tsz.Decode as a Lean function laid by hand (a stand-in for the printer).
   The codec's decoder in plain words: what it makes of encoded points. -/
import Derived.Test.YtmnlbedgkjnodaaDoorZTszOne18
set_option linter.unusedSimpArgs false
set_option linter.unusedVariables false
namespace Go.Proofs.YtmnlbedgkjnodaaDoor.QB
open Go.RowKit Go.Proofs.YtmnlbedgkjnodaaDoorW.PrintWords Go.Proofs.YtmnlbedgkjnodaaDoorW.PrintLast Go.Proofs.YtmnlbedgkjnodaaDoorW.PrintMore Go.Proofs.YtmnlbedgkjnodaaDoor.TeP Go.Proofs.YtmnlbedgkjnodaaDoor.Sl
def thermographref05_Decode.f (l0 : List Int) : Option (List (S33) × Int) := if l0.length ≤ 1000000 ∧ (l0.all fun x => decide (0 ≤ x ∧ x < 256)) = true then some (RfW.refD l0) else none
theorem thermographref05_Decode.f_eq {l : List Int} (hl : l.length ≤ 1000000) (hb : ∀ x ∈ l, 0 ≤ x ∧ x < 256) : thermographref05_Decode.f l = some (RfW.refD l) := by
  unfold thermographref05_Decode.f
  rw [if_pos ⟨hl, List.all_eq_true.2 fun p hp => decide_eq_true (hb p hp)⟩]
theorem thermographref05_Decode.calls (A0 : Option Addr) (c0 : Nat) (l0 : List Int) (r1 : List (S33)) (r2 : Int) (w : World) (hr0 : Kd.C (Kd.int .u8) w A0 l0.length l0) (hc0 : l0.length ≤ c0) (h : thermographref05_Decode.f l0 = some (r1, r2)) :
    Calls Tryd.prog 20 #[.slice A0 l0.length c0] w fun e w' => ∃ v0_ : Value, e = .returned (.tuple #[v0_, .int .i64 r2]) ∧ Kd.R k33 33 w' w.heap.size (fun _ => True) v0_ r1 ∧ Below w.heap.size w w' := by
  unfold thermographref05_Decode.f at h
  split at h
  · rename_i hc
    obtain ⟨hl, hall⟩ := hc
    have hb : ∀ x ∈ l0, 0 ≤ x ∧ x < 256 := fun p hp => of_decide_eq_true (List.all_eq_true.1 hall p hp)
    have h := Option.some.inj h
    refine (RfW.ref_Decode_calls w A0 c0 l0 hr0 hc0 hl hb).mono ?_
    rintro e w' ⟨v, rfl, hs⟩
    rw [h] at hs ⊢
    obtain ⟨G, h1, h2⟩ := hs.get
    exact ⟨v, rfl, Kd.R_mono h1 (fun _ _ => trivial), hs.below⟩
  · cases h
end Go.Proofs.YtmnlbedgkjnodaaDoor.QB
namespace Go.Proofs.YtmnlbedgkjnodaaDoor.QB
open Go.RowKit Go.Proofs.YtmnlbedgkjnodaaDoorW.PrintWords Go.Proofs.YtmnlbedgkjnodaaDoorW.PrintLast Go.Proofs.YtmnlbedgkjnodaaDoorW.PrintMore Go.Proofs.YtmnlbedgkjnodaaDoor.TeP
def tsz_Decode.f (l0 : List Int) : Option (List (S33) × Int) := if l0.length ≤ 1000000 ∧ (l0.all fun x => decide (0 ≤ x ∧ x < 256)) = true then some (TdW.decP l0) else none
theorem tsz_Decode.f_eq {l : List Int} (hl : l.length ≤ 1000000) (hb : ∀ x ∈ l, 0 ≤ x ∧ x < 256) : tsz_Decode.f l = some (TdW.decP l) := by
  unfold tsz_Decode.f
  rw [if_pos ⟨hl, List.all_eq_true.2 fun p hp => decide_eq_true (hb p hp)⟩]
theorem tsz_Decode.calls (A0 : Option Addr) (c0 : Nat) (l0 : List Int) (r1 : List (S33)) (r2 : Int) (w : World) (hr0 : Kd.C (Kd.int .u8) w A0 l0.length l0) (hc0 : l0.length ≤ c0) (h : tsz_Decode.f l0 = some (r1, r2)) (hL : Ld.LaidW w) :
    Calls Tryd.prog 19 #[.slice A0 l0.length c0] w fun e w' => ∃ v0_ : Value, e = .returned (.tuple #[v0_, .int .i64 r2]) ∧ Kd.R k33 33 w' w.heap.size (fun _ => True) v0_ r1 ∧ Below w.heap.size w w' := by
  unfold tsz_Decode.f at h
  split at h
  · rename_i hc
    obtain ⟨hl, hall⟩ := hc
    have hb : ∀ x ∈ l0, 0 ≤ x ∧ x < 256 := fun p hp => of_decide_eq_true (List.all_eq_true.1 hall p hp)
    have h := Option.some.inj h
    refine (TdW.Decode_calls w A0 c0 l0 hr0 hc0 hl hb hL).mono ?_
    rintro e w' ⟨v, rfl, hs⟩
    rw [h] at hs ⊢
    obtain ⟨G, h1, h2⟩ := hs.get
    exact ⟨v, rfl, Kd.R_mono h1 (fun _ _ => trivial), hs.below⟩
  · cases h
end Go.Proofs.YtmnlbedgkjnodaaDoor.QB
namespace Go.Proofs.YtmnlbedgkjnodaaDoor.TdS
open Go.RowKit Go.Proofs.YtmnlbedgkjnodaaDoorW.PrintWords Go.Proofs.YtmnlbedgkjnodaaDoorW.PrintLast Go.Proofs.YtmnlbedgkjnodaaDoorW.PrintMore Go.Proofs.YtmnlbedgkjnodaaDoor.QB Go.Proofs.YtmnlbedgkjnodaaDoor.Bt Go.Proofs.YtmnlbedgkjnodaaDoor.TzP Go.Proofs.YtmnlbedgkjnodaaDoor.TzW Go.Proofs.YtmnlbedgkjnodaaDoor.TeP Go.Proofs.YtmnlbedgkjnodaaDoor.TeW Go.Proofs.YtmnlbedgkjnodaaDoor.TdP Go.Proofs.YtmnlbedgkjnodaaDoor.TdW Go.Proofs.YtmnlbedgkjnodaaDoor.Uv Go.Proofs.YtmnlbedgkjnodaaDoor.UvP Go.Proofs.YtmnlbedgkjnodaaDoor.TeK
theorem dec_at {l : List Pt} (hk : checkF l = 0) (hok : OkL l) (x : List Int) : pointsP ((encB l ++ x).drop (ruv (encB l ++ x)).2.toNat) (ruv (encB l ++ x)).1.toNat = some l ∧ ruv (encB l ++ x) = ((l.length : Int), ((uv l.length).length : Int)) := by
  obtain ⟨hn, _, _⟩ := checkF_zero hk
  have h1 : ruv (encB l ++ x) = ((l.length : Int), ((uv l.length).length : Int)) := by
    unfold encB
    rw [List.append_assoc]
    exact ruv_uv (by omega) _
  refine ⟨?_, h1⟩
  rw [h1]
  simp only [Int.toNat_natCast]
  refine points_at hk hok ⟨List.replicate (8 * (((bitsT l).length + 7) / 8) - (bitsT l).length) 0 ++ unpk x, ?_⟩
  unfold encB
  rw [List.append_assoc, List.drop_left' rfl, List.drop_zero, unpk_append, unpk_pk (l := bitsT l) (goB_isBits l _), List.append_assoc]
theorem dec_enc {l : List Pt} (hk : checkF l = 0) (hok : OkL l) : decP (encB l) = (l, 0) := by
  obtain ⟨hn, _, _⟩ := checkF_zero hk
  obtain ⟨h1, h2⟩ := dec_at hk hok []
  rw [List.append_nil] at h1 h2
  unfold decP
  rw [h1, h2]
  simp only
  have := uv_pos l.length
  rw [if_neg (by omega), if_pos ⟨by rw [encT_ok hk], by rw [encT_ok hk]⟩]
end Go.Proofs.YtmnlbedgkjnodaaDoor.TdS
