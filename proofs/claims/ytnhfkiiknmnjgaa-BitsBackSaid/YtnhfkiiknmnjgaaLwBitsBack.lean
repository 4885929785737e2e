/- The walk of the law BitsBack: what is put is got, in the same widths. -/
import Derived.Test.YtnhfkiiknmnjgaaWrW
import Derived.Test.YtnhfkiiknmnjgaaRdW
import Derived.Test.YtnhfkiiknmnjgaaSl2
import Derived.Test.YtnhfkiiknmnjgaaAllB
namespace Go.Proofs.Ytnhfkiiknmnjgaa.LwBitsBack
open Go.RowKit Go.Proofs.YtnhfkiiknmnjgaaW.PrintWords Go.Proofs.YtnhfkiiknmnjgaaW.PrintLast Go.Proofs.YtnhfkiiknmnjgaaW.PrintMore Go.Proofs.Ytnhfkiiknmnjgaa.QB Go.Proofs.Ytnhfkiiknmnjgaa.Sl Go.Proofs.Ytnhfkiiknmnjgaa.Bt Go.Proofs.Ytnhfkiiknmnjgaa.WrW Go.Proofs.Ytnhfkiiknmnjgaa.RdW Go.Proofs.Ytnhfkiiknmnjgaa.BtR Go.Proofs.Ytnhfkiiknmnjgaa.Ty3 Go.Proofs.Ytnhfkiiknmnjgaa.AllB
attribute [local go_sem] max2_int min2_int max_two min_two
set_option linter.unusedVariables false
set_option linter.unusedSimpArgs false

theorem mask_value (v m : Nat) (hv : v < 18446744073709551616) (hm : m < 64) : Go.bits .and .u64 (v : Int) (IntKind.u64.wrap (IntKind.u64.wrap (2 ^ m) - 1)) = ((v % 2 ^ m : Nat) : Int) := by
  have hp : (2 : Nat) ^ m ≤ 2 ^ 63 := Nat.pow_le_pow_right (by omega) (by omega)
  have hp0 : 0 < (2 : Nat) ^ m := Nat.pow_pos (by omega)
  have hc : ((2 ^ m : Nat) : Int) = (2 : Int) ^ m := Int.natCast_pow 2 m
  have e : IntKind.u64.wrap (IntKind.u64.wrap (2 ^ m) - 1) = ((2 ^ m - 1 : Nat) : Int) := by
    rw [← hc, IntKind.wrap_u64, IntKind.wrap_u64]
    omega
  rw [e, u64_and_nat _ _ hv (by omega), Nat.and_two_pow_sub_one_eq_mod]

set_option maxHeartbeats 4000000 in
set_option maxRecDepth 100000 in
theorem BitsBack_calls (W : World) (a0 : Option Addr) (cap0 : Nat) (l0 : List S43) (hc0 : l0.length ≤ cap0) (hr0 : Kd.C k43 W a0 l0.length l0) (hw0 : ∀ x ∈ l0, okStep x) (hs0 : l0.length * 16 ≤ 140737488351232) :
    Calls Try.prog 10 #[.slice a0 l0.length cap0] W fun e w' => e = .returned (.bool true) ∧ Below W.heap.size W w' := by
  by_cases hbig : l0.length > 4096
  · have h1 : decide ((4096 : Int) < (l0.length : Int)) = true := by simp; omega
    have h2 : decide (4096 < l0.length) = true := by simp; omega
    clear hr0 hw0
    go_enter Try.func10, Try.ntmps10
    go_wp2
    go_ret
    exact ⟨rfl, Below.refl _ _⟩
  · have h1 : decide ((4096 : Int) < (l0.length : Int)) = false := by simp; omega
    have h2 : decide (4096 < l0.length) = false := by simp; omega
    have hn : l0.length ≤ 4096 := by omega
    have hal := allBits_length l0
    have hal2 : (allBits l0).length ≤ 1099511627776 := by omega
    clear hbig hal
    have HW := Aside0.mk hw0
    have HR := Aside0.mk hr0
    have HS := Aside0.mk (Sat.start W)
    clear hw0 hr0
    go_enter Try.func10, Try.ntmps10
    go_wp2_with (first | (go_at_call 19; (with_reducible refine (NewWriter_calls W _ _ HS.out).mono ?_); rintro e w1 ⟨g, rfl, hs⟩; have HS1 := Aside0.mk hs; clear hs))
    go_loopw [4] (fun v4 wr => ∃ (k : Nat), k ≤ l0.length ∧ v4 = .int .i64 k ∧ Aside0 (Sat W wr (Wr g (allBits (l0.take k)) :: []))) (fun v4 _ => l0.length - (intOf v4).toNat)
    case atStart => exact ⟨0, Nat.zero_le _, rfl, HS1⟩
    case round =>
      obtain ⟨k, hk, rfl, HL⟩ := hrel
      clear HS HS1
      by_cases hlt : k < l0.length
      · have hlti : decide ((k : Int) < (l0.length : Int)) = true := by simp; omega
        have hltn : decide (k < l0.length) = true := by simp; omega
        have hbl := allBits_length (l0.take k)
        rw [List.length_take, Nat.min_eq_left hk] at hbl
        have hal3 : (allBits (l0.take k)).length ≤ 1099511627776 := by omega
        obtain ⟨ad, vn, nn, rfl, hst, hvl, _, hX⟩ := step_at HR.out HW.out hlt
        have hs1 := allBits_succ hlt hst
        have HST := Aside0.mk hs1
        obtain ⟨hx0, hx1⟩ := hX wr HL.out.below
        have HD := Aside0.mk HL.out.drew
        have hk0 : (0 : Int) ≤ (k : Int) := by omega
        have hk1 : (k : Int) < (l0.length : Int) := by omega
        clear hst hs1 hX HL hbl
        go_wp2_with fail
        go_still_tail 11, (by kernel_rfl)
        change wpList _ _ _ _ _ wr.drew
        generalize wr.drew = wd at HD ⊢
        go_wp2_with (first | (go_at_call 20; (with_reducible refine (Put_calls W wd _ g (allBits (l0.take k)) vn nn hvl hal3 (allBits_isBits _) HD.out).mono ?_); rintro e w2 ⟨rfl, hs⟩; rw [← HST.out] at hs; have HP := Aside0.mk hs; clear hs))
        go_roundw
        case measure => simp [intOf]; omega
        case rel => exact ⟨k + 1, by omega, by go_num, HP⟩
      · have hlti : decide ((k : Int) < (l0.length : Int)) = false := by simp; omega
        have hltn : decide (k < l0.length) = false := by simp; omega
        rw [List.take_of_length_le (by omega)] at HL
        clear hk hlt
        have hpl : (pk (allBits l0)).length < 140737488355328 := by rw [pk_length]; omega
        go_wp2_with (first | (go_at_call 23; (with_reducible refine (Bytes_calls W _ _ g (allBits l0) hal2 HL.out).mono ?_); rintro e w5 ⟨v5, rfl, hs5⟩; obtain ⟨A5, c5, rfl, hc5, hC5⟩ := hs5.rowSlice; have HC5 := Aside0.mk hC5; have HS5 := Aside0.mk hs5; clear hs5 hC5) | (go_at_call 14; (with_reducible refine (NewReader_calls W _ _ A5 c5 (pk (allBits l0)) HC5.out hc5 hpl HS5.out).mono ?_); rintro e w6 ⟨gr, rfl, hs6⟩; have HS6 := Aside0.mk hs6; clear hs6))
        have hbb : ∀ x ∈ pk (allBits l0), 0 ≤ x ∧ x < 256 := pk_bytes (allBits_isBits l0)
        have HBB := Aside0.mk hbb
        clear hbb
        have hpl2 : (pk (allBits l0)).length ≤ 1099511627776 := by rw [pk_length]; omega
        have hroom := pk_room (allBits l0)
        go_loopw [6] (fun v6 wr => ∃ (j : Nat), j ≤ l0.length ∧ v6 = .int .i64 j ∧ Aside0 (Sat W wr (Rd gr (pk (allBits l0)) (allBits (l0.take j)).length :: Row (Kd.int .u8) 5 (.slice A5 (pk (allBits l0)).length c5) (pk (allBits l0)) :: Wr g (allBits l0) :: []))) (fun v6 _ => l0.length - (intOf v6).toNat)
        case atStart => exact ⟨0, Nat.zero_le _, rfl, HS6⟩
        case round =>
          obtain ⟨j, hj, rfl, HQ⟩ := hrel
          clear HL HS5 HS6 HC5
          by_cases hlt : j < l0.length
          · have hlti : decide ((j : Int) < (l0.length : Int)) = true := by simp; omega
            have hltn : decide (j < l0.length) = true := by simp; omega
            obtain ⟨ad, vn, nn, rfl, hst, hvl, hnr, hX⟩ := step_at HR.out HW.out hlt
            obtain ⟨hg1, hg2⟩ := allBits_get hlt hst
            have hs1 := allBits_succ hlt hst
            have hs2 := congrArg List.length hs1
            rw [List.length_append, bitsOf_length] at hs2
            have HST := Aside0.mk hs2
            have HX := Aside0.mk hX
            have HG := Aside0.mk hg2
            obtain ⟨hx0, hx1⟩ := hX wr HQ.out.below
            have hp : (allBits (l0.take j)).length ≤ 8 * (pk (allBits l0)).length := by omega
            have hle : cutN nn ≤ 8 * (pk (allBits l0)).length - (allBits (l0.take j)).length := by omega
            obtain ⟨c, hc⟩ : ∃ c, cutN nn = c := ⟨_, rfl⟩
            have hc64 : c ≤ 64 := by rw [← hc]; exact cutN_le nn
            have hk0 : (0 : Int) ≤ (j : Int) := by omega
            have hk1 : (j : Int) < (l0.length : Int) := by omega
            clear hst hs1 hs2 hX hg1 hg2 hnr
            rcases (show nn ≤ 0 ∨ (0 < nn ∧ nn < 64) ∨ 64 ≤ nn from by omega) with hnn | ⟨hnn, hnn2⟩ | hnn
            · have hcc : c = 0 := by rw [← hc]; unfold cutN; omega
              subst hcc
              have hcmp : (((getN (pk (allBits l0)) (allBits (l0.take j)).length (cutN nn) : Nat) : Int) != Go.bits .and .u64 (vn : Int) 0) = false := by
                rw [HG.out, hc]
                have := u64_and_nat vn 0 hvl (by omega)
                rw [show ((0 : Nat) : Int) = 0 from rfl] at this
                rw [this]
                simp [Nat.mod_one]
              have hcmp2 : (((getN (pk (allBits l0)) (allBits (l0.take j)).length (cutN nn) : Nat) : Int) != Go.bits .and .u64 (vn : Int) (IntKind.u64.wrap (IntKind.u64.wrap (2 ^ 0) - 1))) = false := by
                rw [HG.out, hc, mask_value vn 0 hvl (by omega)]
                simp
              clear hc
              go_wp2_with (first | (go_at_call 16; (with_reducible refine (Get_ok W _ _ gr (pk (allBits l0)) (allBits (l0.take j)).length nn hpl2 HBB.out hp hle HQ.out).mono ?_); rintro e w7 ⟨rfl, hs7⟩; rw [← HST.out] at hs7; have HS7 := Aside0.mk hs7; obtain ⟨hx0b, hx1b⟩ := HX.out w7 hs7.below; clear hs7))
              go_roundw
              case measure => simp [intOf]; omega
              case rel => exact ⟨j + 1, by omega, by go_num, HS7⟩
            · obtain ⟨m, rfl⟩ : ∃ m : Nat, nn = (m : Int) := ⟨nn.toNat, by omega⟩
              have hcc : c = m := by rw [← hc]; unfold cutN; omega
              subst hcc
              have hcmp : (((getN (pk (allBits l0)) (allBits (l0.take j)).length (cutN (c : Int)) : Nat) : Int) != Go.bits .and .u64 (vn : Int) (IntKind.u64.wrap (IntKind.u64.wrap (2 ^ c) - 1))) = false := by
                rw [HG.out, hc, mask_value vn c hvl (by omega)]
                simp
              clear hc
              go_wp2_with (first | (go_at_call 16; (with_reducible refine (Get_ok W _ _ gr (pk (allBits l0)) (allBits (l0.take j)).length c hpl2 HBB.out hp hle HQ.out).mono ?_); rintro e w7 ⟨rfl, hs7⟩; rw [← HST.out] at hs7; have HS7 := Aside0.mk hs7; obtain ⟨hx0b, hx1b⟩ := HX.out w7 hs7.below; clear hs7))
              go_roundw
              case measure => simp [intOf]; omega
              case rel => exact ⟨j + 1, by omega, by go_num, HS7⟩
            · have hcc : c = 64 := by rw [← hc]; unfold cutN; omega
              subst hcc
              have hcmp : (((getN (pk (allBits l0)) (allBits (l0.take j)).length (cutN nn) : Nat) : Int) != (vn : Int)) = false := by
                rw [HG.out, hc, Nat.mod_eq_of_lt (by omega)]
                simp
              clear hc
              go_wp2_with (first | (go_at_call 16; (with_reducible refine (Get_ok W _ _ gr (pk (allBits l0)) (allBits (l0.take j)).length nn hpl2 HBB.out hp hle HQ.out).mono ?_); rintro e w7 ⟨rfl, hs7⟩; rw [← HST.out] at hs7; have HS7 := Aside0.mk hs7; obtain ⟨hx0b, hx1b⟩ := HX.out w7 hs7.below; clear hs7))
              go_roundw
              case measure => simp [intOf]; omega
              case rel => exact ⟨j + 1, by omega, by go_num, HS7⟩
          · have hlti : decide ((j : Int) < (l0.length : Int)) = false := by simp; omega
            have hltn : decide (j < l0.length) = false := by simp; omega
            rw [List.take_of_length_le (by omega)] at HQ
            clear hj hlt
            have hrle : (allBits l0).length ≤ 8 * (pk (allBits l0)).length := by omega
            obtain ⟨lf, hlf⟩ : ∃ lf, 8 * (pk (allBits l0)).length - (allBits l0).length = lf := ⟨_, rfl⟩
            have hlf8 : lf < 8 := by omega
            have heq : (((allBits l0).length : Int) + (lf : Int) == 8 * ((pk (allBits l0)).length : Int)) = true := by rw [beq_iff_eq]; omega
            have hlf8d : decide ((lf : Int) < 8) = true := by simp; omega
            have HB := Aside0.mk HQ.out.below
            have HLF := Aside0.mk hlf
            clear hlf hroom hpl2 HR HW h1 h2
            go_wp2_with (first | (go_at_call 18; go_loud ((with_reducible refine (Left_calls W _ _ gr (pk (allBits l0)) (allBits l0).length hpl hrle HQ.out).mono ?_); rintro e w8 ⟨rfl, ⟨⟨m, hm⟩⟩⟩; rw [HLF.out]; have HQ' := Aside0.mk (HQ.out.drewN m); rw [← hm] at HQ'; clear HQ hm; have HQ := HQ'; clear HQ')) | (go_at_call 22; go_loud ((with_reducible refine (Len_calls W _ _ g (allBits l0) (HQ.out.nth 2 rfl)).mono ?_); rintro e w4 ⟨rfl, rfl⟩)) | (go_at_call 23; go_loud ((with_reducible refine (Bytes_calls W _ _ g (allBits l0) hal2 (HQ.out.nth 2 rfl)).mono ?_); rintro e w9 ⟨v9, rfl, hs9⟩; obtain ⟨A9, c9, rfl, _, _⟩ := hs9.rowSlice; have HB9 := Aside0.mk hs9.below; clear hs9)))
            go_ret
            exact ⟨rfl, HB9.out⟩
end Go.Proofs.Ytnhfkiiknmnjgaa.LwBitsBack
