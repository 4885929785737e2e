/- The walk of the law BitsReads: of any bytes, in whatever widths, the numbers are the document's. -/
import Derived.Test.YtnhfkiiknmnjgaaRdW
import Derived.Test.YtnhfkiiknmnjgaaSl2
import Derived.Test.YtnhfkiiknmnjgaaBtG
import Derived.Test.YtnhfkiiknmnjgaaGetQ
namespace Go.Proofs.Ytnhfkiiknmnjgaa.LwBitsReads
open Go.RowKit Go.Proofs.YtnhfkiiknmnjgaaW.PrintWords Go.Proofs.YtnhfkiiknmnjgaaW.PrintLast Go.Proofs.YtnhfkiiknmnjgaaW.PrintMore Go.Proofs.Ytnhfkiiknmnjgaa.QB Go.Proofs.Ytnhfkiiknmnjgaa.Sl Go.Proofs.Ytnhfkiiknmnjgaa.Bt Go.Proofs.Ytnhfkiiknmnjgaa.WrW Go.Proofs.Ytnhfkiiknmnjgaa.RdW Go.Proofs.Ytnhfkiiknmnjgaa.BtR Go.Proofs.Ytnhfkiiknmnjgaa.UvP
attribute [local go_sem] max2_int min2_int max_two min_two
set_option linter.unusedVariables false
set_option linter.unusedSimpArgs false

set_option maxHeartbeats 4000000 in
set_option maxRecDepth 100000 in
theorem BitsReads_calls (W : World) (a0 : Option Addr) (cap0 : Nat) (l0 : List Int) (hc0 : l0.length ≤ cap0) (hr0 : Kd.C (Kd.int .u8) W a0 l0.length l0) (hw0 : ∀ x ∈ l0, (Lit.int .u8 x).wf = true) (hs0 : l0.length * 1 ≤ 140737488351232)
    (a1 : Option Addr) (cap1 : Nat) (l1 : List Int) (hc1 : l1.length ≤ cap1) (hr1 : Kd.C (Kd.int .i64) W a1 l1.length l1) (hw1 : ∀ x ∈ l1, (Lit.int .i64 x).wf = true) (hs1 : l1.length * 8 ≤ 140737488351232) :
    Calls Try.prog 4 #[.slice a0 l0.length cap0, .slice a1 l1.length cap1] W fun e w' => e = .returned (.bool true) ∧ Below W.heap.size W w' := by
  by_cases hbig : l0.length > 16384
  · have h1 : decide ((16384 : Int) < (l0.length : Int)) = true := by simp; omega
    have h2 : decide (16384 < l0.length) = true := by simp; omega
    clear hr0 hw0 hr1 hw1
    go_enter Try.func4, Try.ntmps4
    go_wp2
    go_ret
    exact ⟨rfl, Below.refl _ _⟩
  have h1 : decide ((16384 : Int) < (l0.length : Int)) = false := by simp; omega
  have h2 : decide (16384 < l0.length) = false := by simp; omega
  by_cases hbig1 : l1.length > 4096
  · have h3 : decide ((4096 : Int) < (l1.length : Int)) = true := by simp; omega
    have h4 : decide (4096 < l1.length) = true := by simp; omega
    clear hr0 hw0 hr1 hw1
    go_enter Try.func4, Try.ntmps4
    go_wp2
    go_ret
    exact ⟨rfl, Below.refl _ _⟩
  have h3 : decide ((4096 : Int) < (l1.length : Int)) = false := by simp; omega
  have h4 : decide (4096 < l1.length) = false := by simp; omega
  have hn : l0.length ≤ 16384 := by omega
  have hn1 : l1.length ≤ 4096 := by omega
  clear hbig hbig1
  have hby : ∀ x ∈ l0, 0 ≤ x ∧ x < 256 := fun x hx => by
    have h := hw0 x hx
    simp [Lit.wf, IntKind.min, IntKind.max, IntKind.signed, IntKind.bits] at h
    omega
  have hof := ref_Of_f (k := 20000) hby (by omega) (by omega)
  have hul := unpk_length l0
  have hub := unpk_isBits l0
  have HY := Aside0.mk hby
  have HOF := Aside0.mk hof
  have HUB := Aside0.mk hub
  have HR0 := Aside0.mk hr0
  have HR1 := Aside0.mk hr1
  have HS := Aside0.mk (Sat.start W)
  clear hw0 hr0 hr1 hw1 hby hof hub
  have hal : (([] : List Int).length + l0.length) * 1 ≤ 140737488355328 := by simp; omega
  have hl2 : l0.length < 140737488355328 := by omega
  go_enter Try.func4, Try.ntmps4
  go_wp2_with (first | (at_builtin; go_loud (refine Sat.appendInts rfl (.tmp 24) (.tmp 25) 26 5 .u8 1 rfl Try.underlying26 info8 (by decide) _ [] l0 a0 l0.length cap0 rfl rfl (HS.out.emptyRow (Kd.int .u8) 5) (Kd.C_alloc HR0.out _) hal ?_; intro v1 w1 hs1 _; rw [List.nil_append] at hs1; obtain ⟨A1, c1, rfl, hc1', hC1⟩ := hs1.rowSlice; have HC1 := Aside0.mk hC1; have HX := Aside0.mk hs1; clear hs1 hC1)) | (go_at_call 14; go_loud ((with_reducible refine (NewReader_calls W _ _ A1 c1 l0 HC1.out hc1' hl2 HX.out).mono ?_); rintro e w2 ⟨gr, rfl, hs2⟩; have HS2 := Aside0.mk hs2; clear hs2)) | (go_at_call 15; go_loud ((with_reducible refine (thermographref03_Of.calls 20000 a0 cap0 l0 _ _ (Kd.C_below HR0.out HS2.out.below) hc0 HOF.out).mono ?_); rintro e w3 ⟨v3, rfl, hr3, hb3⟩; have HS3 := Aside0.mk (HS2.out.made hb3 hr3); clear hr3 hb3)))
  have hbase : (unpk l0).drop 0 = unpk l0 := rfl
  go_loopw [8] (fun v8 wr => ∃ (i : Nat) (xs : List Int), i ≤ l0.length ∧ xs.length = l0.length ∧ v8 = .int .i64 i ∧ Aside0 (Sat W wr (Row (Kd.int .u8) 5 (.slice A1 l0.length c1) xs :: Row (Kd.int .u8) 5 v3 (unpk l0) :: Rd gr l0 0 :: []))) (fun v8 _ => l0.length - (intOf v8).toNat)
  case atStart => exact ⟨0, l0, Nat.zero_le _, rfl, rfl, ⟨HS3.out.nth 2 rfl⟩⟩
  case round =>
    obtain ⟨i, xs, hi, hxl, rfl, HL⟩ := hrel
    clear HS HX HS2 HS3 HC1 HOF
    by_cases hlt : i < l0.length
    · have hlti : decide ((i : Int) < (l0.length : Int)) = true := by simp; omega
      have hltn : decide (i < l0.length) = true := by simp; omega
      have hs1 := HL.out
      rw [← hxl] at hs1
      obtain ⟨gb, cap, he, _, _⟩ := hs1.rowBlock (by omega)
      simp only [Value.slice.injEq] at he
      obtain ⟨rfl, _, rfl⟩ := he
      obtain ⟨hx, hf⟩ := hs1.rowCell i (by omega)
      have HL1 := Aside0.mk hs1
      have hk0 : (0 : Int) ≤ (i : Int) := by omega
      have hk1 : (i : Int) < (l0.length : Int) := by omega
      clear hs1 HL
      go_wp2
      go_roundw
      case measure => simp [intOf]; omega
      case rel =>
        have h9 := fun z => HL1.out.rowPut i z
        rw [hxl] at h9
        exact ⟨i + 1, _, by omega, by rw [List.length_set, hxl], by go_num, ⟨h9 (((xs[i]'(by omega)) + 1) % 256)⟩⟩
    · have hlti : decide ((i : Int) < (l0.length : Int)) = false := by simp; omega
      have hltn : decide (i < l0.length) = false := by simp; omega
      clear hi hlt
      have HQ := Aside0.mk ((HL.out.nth 1 rfl).rowQ)
      clear HL
      go_wp2
      go_loopw [9, 7] (fun v9 v7 wr => ∃ (j p : Nat), j ≤ l1.length ∧ p ≤ 8 * l0.length ∧ v9 = .int .i64 j ∧ Aside0 (Sat W wr (RowQ (Kd.int .u8) 5 v7 ((unpk l0).drop p) :: Rd gr l0 p :: Row (Kd.int .u8) 5 (.slice A1 l0.length c1) xs :: []))) (fun v9 _ _ => l1.length - (intOf v9).toNat)
      case atStart => exact ⟨0, 0, Nat.zero_le _, Nat.zero_le _, rfl, ⟨(HQ.out.nth 2 rfl).nth 1 rfl⟩⟩
      case round =>
        obtain ⟨j, p, hj, hp, rfl, HP⟩ := hrel
        clear HQ
        have hdl : ((unpk l0).drop p).length = 8 * l0.length - p := by rw [List.length_drop, hul]
        obtain ⟨A7, c7, h7, hc7⟩ := HP.out.rowQSome
        rw [hdl] at h7
        subst h7
        have HDL := Aside0.mk hdl
        have hlb : l0.length ≤ 1099511627776 := by omega
        by_cases hlt : j < l1.length
        · have hlti : decide ((j : Int) < (l1.length : Int)) = true := by simp; omega
          have hltn : decide (j < l1.length) = true := by simp; omega
          have hk0 : (0 : Int) ≤ (j : Int) := by omega
          have hk1 : (j : Int) < (l1.length : Int) := by omega
          obtain ⟨ad, hadd, hxW⟩ := Kd.at_int HR1.out (j : Int) hk0 hk1
          obtain ⟨n, hn⟩ : ∃ n, rd l1 (j : Int) = n := ⟨_, rfl⟩
          rw [Int.toNat_natCast, hn] at hxW
          have HX : Aside0 (∀ w', Below W.heap.size W w' → w'.cell? (ad.add j) = some (.int .i64 n)) := ⟨fun w' hb => (hb.cell (World.block_lt_of_cell? W _ hxW)).trans hxW⟩
          clear hxW hn hdl
          subst hadd
          have hx := HX.out wr HP.out.below
          by_cases hle : cutN n ≤ 8 * l0.length - p
          · have hp2 : p + cutN n ≤ 8 * l0.length := by omega
            have HGF : Aside0 (thermographref03_Get.f 100 ((unpk l0).drop p) n = some (((getN l0 p (cutN n) : Nat) : Int), (unpk l0).drop (p + cutN n), true)) := ⟨by
              have h := ref_Get_ok (k := 100) (n := n) (HUB.out.drop p) (by rw [HDL.out]; omega) (by omega) (by rw [HDL.out]; exact hle)
              rw [List.drop_drop] at h
              exact h⟩
            have HDL2 : Aside0 (((unpk l0).drop (p + cutN n)).length = 8 * l0.length - (p + cutN n)) := ⟨by rw [List.length_drop, hul]⟩
            go_wp2_with (first | (go_at_call 16; go_loud ((with_reducible refine (Get_ok W _ _ gr l0 p n hlb HY.out hp hle (HP.out.nth 1 rfl)).mono ?_); rintro e w7 ⟨rfl, hs7⟩; have hx2 := HX.out w7 hs7.below; have HS7 := Aside0.mk (hs7.nth 1 rfl); obtain ⟨G, hG1, hG2, hG3⟩ := HS7.out.viaKeptQ (d' := Kd.int .u8) (e' := 5); have HG1 := Aside0.mk hG1; have HG3 := Aside0.mk hG3; clear hG1 hG2 hG3 hs7)) | (go_at_call 17; go_loud ((with_reducible refine (thermographref03_Get.callsQ 100 G _ ((unpk l0).drop p) n _ _ _ W w7 HS7.out.below HG1.out HGF.out).mono ?_); rintro e w8 ⟨v8, rfl, hr, hb, hk⟩; have hp8 := HG3.out w8 v8 _ hr hb hk; obtain ⟨A8, c8, h8, hc8⟩ := hp8.rowQSome; rw [HDL2.out] at h8; subst h8; have HS8 := Aside0.mk hp8; clear hp8 hr hb hk)) | (go_at_call 18; go_loud ((with_reducible refine (Left_calls W _ _ gr l0 (p + cutN n) hl2 hp2 (HS8.out.nth 1 rfl)).mono ?_); rintro e w9 ⟨rfl, ⟨⟨m, hm⟩⟩⟩; have HS9 := Aside0.mk (HS8.out.drewN m); rw [← hm] at HS9; clear HS8 hm)))
            go_roundw
            case measure => simp [intOf]; omega
            case rel => exact ⟨j + 1, (p + cutN n), by omega, hp2, by go_num, HS9⟩
          · have hp2 : p ≤ 8 * l0.length := hp
            have HGF : Aside0 (thermographref03_Get.f 100 ((unpk l0).drop p) n = some (0, (unpk l0).drop p, false)) := ⟨ref_Get_none (by rw [HDL.out]; exact hle)⟩
            have HDL2 : Aside0 (((unpk l0).drop p).length = 8 * l0.length - p) := HDL
            go_wp2_with (first | (go_at_call 16; go_loud ((with_reducible refine (Get_none W _ _ gr l0 p n hlb hp hle (HP.out.nth 1 rfl)).mono ?_); rintro e w7 ⟨rfl, hs7⟩; have hx2 := HX.out w7 hs7.below; have HS7 := Aside0.mk (hs7.nth 1 rfl); obtain ⟨G, hG1, hG2, hG3⟩ := HS7.out.viaKeptQ (d' := Kd.int .u8) (e' := 5); have HG1 := Aside0.mk hG1; have HG3 := Aside0.mk hG3; clear hG1 hG2 hG3 hs7)) | (go_at_call 17; go_loud ((with_reducible refine (thermographref03_Get.callsQ 100 G _ ((unpk l0).drop p) n _ _ _ W w7 HS7.out.below HG1.out HGF.out).mono ?_); rintro e w8 ⟨v8, rfl, hr, hb, hk⟩; have hp8 := HG3.out w8 v8 _ hr hb hk; obtain ⟨A8, c8, h8, hc8⟩ := hp8.rowQSome; rw [HDL2.out] at h8; subst h8; have HS8 := Aside0.mk hp8; clear hp8 hr hb hk)) | (go_at_call 18; go_loud ((with_reducible refine (Left_calls W _ _ gr l0 p hl2 hp2 (HS8.out.nth 1 rfl)).mono ?_); rintro e w9 ⟨rfl, ⟨⟨m, hm⟩⟩⟩; have HS9 := Aside0.mk (HS8.out.drewN m); rw [← hm] at HS9; clear HS8 hm)))
            go_roundw
            case measure => simp [intOf]; omega
            case rel => exact ⟨j + 1, p, by omega, hp2, by go_num, HS9⟩
        · have hlti : decide ((j : Int) < (l1.length : Int)) = false := by simp; omega
          have hltn : decide (j < l1.length) = false := by simp; omega
          clear hj hlt hdl
          go_wp2_with (first | (go_at_call 18; go_loud ((with_reducible refine (Left_calls W _ _ gr l0 p hl2 hp (HP.out.nth 1 rfl)).mono ?_); rintro e w9 ⟨rfl, ⟨⟨m, hm⟩⟩⟩; have HS9 := Aside0.mk (HP.out.drewN m); rw [← hm] at HS9; clear HP hm)))
          go_ret
          exact ⟨rfl, HS9.out.below⟩
end Go.Proofs.Ytnhfkiiknmnjgaa.LwBitsReads
