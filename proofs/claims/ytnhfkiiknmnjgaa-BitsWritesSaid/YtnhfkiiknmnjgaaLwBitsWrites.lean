/- The walk of the law BitsWrites: whatever numbers are put, in whatever widths, the writer's bytes are the document's. -/
import Derived.Test.YtnhfkiiknmnjgaaWrW
import Derived.Test.YtnhfkiiknmnjgaaSl2
import Derived.Test.YtnhfkiiknmnjgaaBtR
import Derived.Test.YtnhfkiiknmnjgaaTy3
namespace Go.Proofs.Ytnhfkiiknmnjgaa.LwBitsWrites
open Go.RowKit Go.Proofs.YtnhfkiiknmnjgaaW.PrintWords Go.Proofs.YtnhfkiiknmnjgaaW.PrintLast Go.Proofs.YtnhfkiiknmnjgaaW.PrintMore Go.Proofs.Ytnhfkiiknmnjgaa.QB Go.Proofs.Ytnhfkiiknmnjgaa.Sl Go.Proofs.Ytnhfkiiknmnjgaa.Bt Go.Proofs.Ytnhfkiiknmnjgaa.WrW Go.Proofs.Ytnhfkiiknmnjgaa.BtR Go.Proofs.Ytnhfkiiknmnjgaa.Ty3
attribute [local go_sem] max2_int min2_int max_two min_two
set_option linter.unusedVariables false
set_option linter.unusedSimpArgs false

/-- All bits that steps put. -/
def allBits (l : List S43) : List Int := (l.map fun s => bitsOf s.f0.toNat (cutN s.f1)).flatten
theorem allBits_snoc (l : List S43) (s : S43) : allBits (l ++ [s]) = allBits l ++ bitsOf s.f0.toNat (cutN s.f1) := by simp [allBits]
theorem allBits_isBits (l : List S43) : IsBits (allBits l) := by
  intro x hx
  simp only [allBits, List.mem_flatten, List.mem_map] at hx
  obtain ⟨a, ⟨s, _, rfl⟩, hx⟩ := hx
  exact bitsOf_isBits _ _ x hx
theorem allBits_length (l : List S43) : (allBits l).length ≤ 64 * l.length := by
  induction l with
  | nil => simp [allBits]
  | cons s l ih =>
    have e : allBits (s :: l) = bitsOf s.f0.toNat (cutN s.f1) ++ allBits l := rfl
    have := cutN_le s.f1
    rw [e, List.length_append, bitsOf_length, List.length_cons]
    omega

set_option maxHeartbeats 4000000 in
set_option maxRecDepth 100000 in
theorem BitsWrites_calls (W : World) (a0 : Option Addr) (cap0 : Nat) (l0 : List S43) (hc0 : l0.length ≤ cap0) (hr0 : Kd.C k43 W a0 l0.length l0) (hw0 : ∀ x ∈ l0, okStep x) (hs0 : l0.length * 16 ≤ 140737488351232) :
    Calls Try.prog 5 #[.slice a0 l0.length cap0] W fun e w' => e = .returned (.bool true) ∧ Below W.heap.size W w' := by
  by_cases hbig : l0.length > 4096
  · have h1 : decide ((4096 : Int) < (l0.length : Int)) = true := by simp; omega
    have h2 : decide (4096 < l0.length) = true := by simp; omega
    clear hr0 hw0
    go_enter Try.func5, Try.ntmps5
    go_wp2
    go_ret
    exact ⟨rfl, Below.refl _ _⟩
  · have h1 : decide ((4096 : Int) < (l0.length : Int)) = false := by simp; omega
    have h2 : decide (4096 < l0.length) = false := by simp; omega
    have hn : l0.length ≤ 4096 := by omega
    clear hbig
    have HW := Aside0.mk hw0
    have HR := Aside0.mk hr0
    have HS := Aside0.mk (Sat.start W)
    clear hw0 hr0
    go_enter Try.func5, Try.ntmps5
    go_wp2_with (first | (go_at_call 19; (with_reducible refine (NewWriter_calls W _ _ HS.out).mono ?_); rintro e w1 ⟨g, rfl, hs⟩; have HS1 := Aside0.mk hs; clear hs))
    have HS2 := Aside0.mk (HS1.out.emptyRow (Kd.int .u8) 5)
    go_loopw [4, 5] (fun v4 v5 wr => ∃ (k : Nat), k ≤ l0.length ∧ v5 = .int .i64 k ∧ Aside0 (Sat W wr (Row (Kd.int .u8) 5 v4 (allBits (l0.take k)) :: Wr g (allBits (l0.take k)) :: []))) (fun _ v5 _ => l0.length - (intOf v5).toNat)
    case atStart => exact ⟨0, Nat.zero_le _, rfl, HS2⟩
    case round =>
      obtain ⟨k, hk, rfl, HL⟩ := hrel
      clear HS HS1 HS2
      have hbl := allBits_length (l0.take k)
      rw [List.length_take, Nat.min_eq_left hk] at hbl
      by_cases hlt : k < l0.length
      · have hlti : decide ((k : Int) < (l0.length : Int)) = true := by simp; omega
        obtain ⟨ad, ha, hx0, hx1⟩ := at_T43 HR.out (k : Int) (by omega) (by omega)
        subst ha
        rw [Int.toNat_natCast] at hx0 hx1
        obtain ⟨st, hst⟩ : ∃ st, rd_T43 l0 (k : Int) = st := ⟨_, rfl⟩
        rw [hst] at hx0 hx1
        have hst2 : st = l0[k] := by
          rw [← hst]
          unfold rd_T43
          rw [Int.toNat_natCast, List.getD_eq_getElem?_getD, List.getElem?_eq_getElem hlt]
          rfl
        have hok := HW.out _ (List.getElem_mem hlt)
        rw [← hst2] at hok
        obtain ⟨vn, hvn, hvl⟩ : ∃ vn : Nat, st.f0 = (vn : Int) ∧ vn < 18446744073709551616 := by
          have h := hok.1
          simp [Lit.wf, IntKind.min, IntKind.max, IntKind.signed, IntKind.bits] at h
          exact ⟨st.f0.toNat, by omega, by omega⟩
        rw [hvn] at hx0
        have HX0 : Aside0 (∀ w', Below W.heap.size W w' → w'.cell? (ad.add (k * 2)) = some (.int .u64 vn)) := ⟨fun w' hb => (hb.cell (World.block_lt_of_cell? W _ hx0)).trans hx0⟩
        have HX1 : Aside0 (∀ w', Below W.heap.size W w' → w'.cell? ⟨(ad.add (k * 2)).block, (ad.add (k * 2)).off + 1, none⟩ = some (.int .i64 st.f1)) := ⟨fun w' hb => (hb.cell (World.block_lt_of_cell? W _ hx1)).trans hx1⟩
        have HST : Aside0 (allBits (l0.take (k + 1)) = allBits (l0.take k) ++ bitsOf vn (cutN st.f1)) := ⟨by rw [List.take_succ_eq_append_getElem hlt, allBits_snoc, ← hst2, hvn]; rfl⟩
        clear hx0 hx1 hst hst2 hok hvn
        have hx0 := HX0.out wr HL.out.below
        have hx1 := HX1.out wr HL.out.below
        have hk0 : (0 : Int) ≤ (k : Int) := by omega
        have hk1 : (k : Int) < (l0.length : Int) := by omega
        go_wp2_with fail
        have HD := Aside0.mk (HL.out.drew.nth 1 rfl)
        clear HL
        go_still_tail 11, (by kernel_rfl)
        change wpList _ _ _ _ _ wr.drew
        generalize wr.drew = wd at HD ⊢
        go_wp2_with (first | (go_at_call 20; (with_reducible refine (Put_calls W wd _ g (allBits (l0.take k)) vn st.f1 hvl (by omega) (allBits_isBits _) HD.out).mono ?_); rintro e w2 ⟨rfl, hs⟩; rw [← HST.out] at hs; have HP := Aside0.mk hs; have hx0b := HX0.out w2 hs.below; have hx1b := HX1.out w2 hs.below; clear hs))
        clear hx0 hx1
        have HQ := Aside0.mk (show Sat W w2.drew (Row (Kd.int .u8) 5 u4 (allBits (l0.take k)) :: Wr g (allBits (l0.take (k + 1))) :: []) from HP.out.drew.nth 1 rfl)
        clear HP
        go_still_tail 11, (by kernel_rfl)
        change wpList _ _ _ _ _ w2.drew
        generalize w2.drew = we at HQ ⊢
        obtain ⟨G, hG1, hG2, hG3⟩ := HQ.out.viaKept (d' := Kd.int .u8) (e' := 5)
        have HG1 := Aside0.mk hG1
        have HG3 := Aside0.mk hG3
        clear hG1 hG2 hG3
        go_wp2_with (first | (go_at_call 21; (with_reducible refine (thermographref03_Put.calls 100 G u4 (allBits (l0.take k)) vn st.f1 _ W we HQ.out.below HG1.out (ref_Put_f hvl (by omega) (by omega))).mono ?_); rintro e w3 ⟨v0, rfl, hr, hb, hk3⟩; have hp := HG3.out w3 v0 _ hr hb hk3; rw [← HST.out] at hp; obtain ⟨A3, c3, rfl, _, _⟩ := hp.rowSlice; have HP := Aside0.mk hp; clear hr hb hk3 hp) | (go_at_call 22; (with_reducible refine (Len_calls W w3 _ g (allBits (l0.take (k + 1))) (HP.out.nth 1 rfl)).mono ?_); rintro e w4 ⟨rfl, rfl⟩))
        go_roundw
        case measure => simp [intOf]; omega
        case rel => exact ⟨k + 1, by omega, by go_num, HP⟩
      · have hlti : decide ((k : Int) < (l0.length : Int)) = false := by simp; omega
        have hltn : decide (k < l0.length) = false := by simp; omega
        have hkn : k = l0.length := by omega
        rw [List.take_of_length_le (by omega)] at HL hbl
        have hal : (allBits l0).length ≤ 262144 := by omega
        clear hk hlt hkn hbl
        obtain ⟨A3, c3, hu4, hcap3, hC3⟩ := HL.out.rowSlice
        subst hu4
        have HB := Aside0.mk (HL.out.nth 1 rfl)
        have HC3 := Aside0.mk hC3
        clear hC3
        go_wp2_with fail
        have hal2 : (allBits l0).length ≤ 1099511627776 := by omega
        have HBd := Aside0.mk HB.out.drew
        clear HB HL
        have hrb := ref_Bytes_f (k := 500000) (allBits_isBits l0) hal2 (by omega)
        go_region_with (first | (go_at_call 23; (with_reducible refine (Bytes_calls W _ _ g (allBits l0) hal2 HBd.out).mono ?_); rintro e w5 ⟨v5, rfl, hs5⟩; have h5c := hs5.toString (P := Try.prog) (src := 26) (dst := 9) Try.underlying26 Try.underlying5 Try.underlying9; have HS5 := Aside0.mk hs5; clear hs5) | (go_at_call 24; (with_reducible refine (thermographref03_Bytes.calls 500000 A3 c3 (allBits l0) _ _ (Sat.rowC (HS5.out.nth 2 rfl)) hcap3 hrb).mono ?_); rintro e w6 ⟨v6, rfl, hr6, hb6⟩; have hs6 := HS5.out.made hb6 hr6; have h6c := hs6.toString (P := Try.prog) (src := 26) (dst := 9) Try.underlying26 Try.underlying5 Try.underlying9; have h5c' := (hs6.nth 1 rfl).toString (P := Try.prog) (src := 26) (dst := 9) Try.underlying26 Try.underlying5 Try.underlying9; have HS6 := Aside0.mk hs6; clear hs6 hr6 hb6))
        all_goals go_wp2
        all_goals go_ret
        all_goals exact ⟨by first | rfl | simp, HS6.out.below⟩
end Go.Proofs.Ytnhfkiiknmnjgaa.LwBitsWrites
