/- What the call of the document's ReadUvarint comes to. -/
import Derived.Test.YtnkcdopjhjmdnaaUvN
import Derived.Test.YtnkcdopjhjmdnaaSl2
import Derived.WalkSpells
import Derived.Outline
import Derived.StillTailTactics
namespace Go.Proofs.Ytnkcdopjhjmdnaa.RuW
open Go.RowKit Go.Proofs.YtnkcdopjhjmdnaaW.PrintWords Go.Proofs.YtnkcdopjhjmdnaaW.PrintLast Go.Proofs.YtnkcdopjhjmdnaaW.PrintMore Go.Proofs.Ytnkcdopjhjmdnaa.QB Go.Proofs.Ytnkcdopjhjmdnaa.Uv Go.Proofs.Ytnkcdopjhjmdnaa.UvP Go.Proofs.Ytnkcdopjhjmdnaa.UvR Go.Proofs.Ytnkcdopjhjmdnaa.UvN Go.Proofs.Ytnkcdopjhjmdnaa.Sl
set_option linter.unusedVariables false
set_option linter.unusedSimpArgs false

theorem ref_Uvarint_none {y : Nat} (hy : y < 18446744073709551616) (w : World) :
    Calls Try.prog 17 #[.slice none 0 0, .int .u64 y] w fun e w' => ∃ v : Value, e = .returned v ∧ Kd.R (Kd.int .u8) 5 w' w.heap.size (fun _ => True) v (uv y) ∧ Below w.heap.size w w' :=
  thermographref03_Uvarint.calls 20 none 0 ([] : List Int) (y : Int) (uv y) w (Kd.C_nil _ _) (Nat.le_refl _) (ref_Uvarint_f hy (by omega) (by omega) (by simp))
theorem UvPinfo : (Try.prog.info? 5).map (fun i => (i.zero, i.size, i.bytes)) = some (some (.int .u8 0), 1, 1) := by kernel_rfl
set_option maxHeartbeats 4000000 in
set_option maxRecDepth 100000 in
theorem ref_Read_calls (w : World) (A : Option Addr) (c : Nat) (b : List Int) (hC : Kd.C (Kd.int .u8) w A b.length b) (hc : b.length ≤ c) (hby : Bytes b) (hl : b.length ≤ 1099511627776) :
    Calls Try.prog 26 #[.slice A b.length c] w fun e w' => e = .returned (.tuple #[.int .u64 (ruv b).1, .int .i64 (ruv b).2]) ∧ Below w.heap.size w w' := by
  have HC := Aside0.mk hC
  have HY := Aside0.mk hby
  have HS := Aside0.mk (Sat.start w)
  clear hC hby
  go_enter Try.func26, Try.ntmps26
  go_wp2
  go_loopw [5, 4] (fun v5 v4 wr => ∃ (i z : Nat), i ≤ 10 ∧ v5 = .int .i64 i ∧ v4 = .int .u64 z ∧ Aside0 (∀ j, j < i → 128 ≤ b.getD j 0) ∧ Aside0 (i ≤ 9 → z = val (b.take i)) ∧ Aside0 (Sat w wr [])) (fun v5 _ _ => 10 - (intOf v5).toNat)
  case atStart => exact ⟨0, 0, by omega, rfl, rfl, ⟨fun j hj => by omega⟩, ⟨fun _ => rfl⟩, HS⟩
  case round =>
    obtain ⟨i, z, hi, rfl, rfl, HH, HZ, HL⟩ := hrel
    clear HS
    by_cases hlt : i < b.length
    · have hlti : decide ((i : Int) < (b.length : Int)) = true := by simp; omega
      have hltn : decide (i < b.length) = true := by simp; omega
      by_cases h10 : i < 10
      · have h10i : decide ((i : Int) < 10) = true := by simp; omega
        have h10n : decide (i < 10) = true := by simp; omega
        have hk0 : (0 : Int) ≤ (i : Int) := by omega
        have hk1 : (i : Int) < (b.length : Int) := by omega
        have hxr := HY.out _ (List.getElem_mem hlt)
        obtain ⟨x, hxe⟩ : ∃ x : Nat, b[i] = (x : Int) := ⟨b[i].toNat, by omega⟩
        have hx256 : x < 256 := by omega
        obtain ⟨ad, hadd, hx⟩ := Kd.at_int (Kd.C_below HC.out HL.out.below) (i : Int) hk0 hk1
        subst hadd
        rw [rd_nat hlt, hxe, Int.toNat_natCast] at hx
        have hz := HZ.out (by omega)
        obtain ⟨y, hy⟩ : ∃ y, val (b.take (i + 1)) % 18446744073709551616 = y := ⟨_, rfl⟩
        have hst := val_step (by omega) hlt hxe
        rw [hy, ← hz] at hst
        have hva : z < 2 ^ (7 * i) := by
          have h := val_lt (b.take i)
          rw [List.length_take, Nat.min_eq_left (by omega)] at h
          rw [hz]
          exact h
        have eor := or_shl0 (acc := z) (x := x % 128) (i := i) (by omega) hva (by omega)
        rw [hst] at eor
        have HE := Aside0.mk hxe
        have HYE := Aside0.mk hy
        obtain ⟨q, hq⟩ : ∃ q, x % 128 = q := ⟨_, rfl⟩
        obtain ⟨s, hs⟩ : ∃ s, 7 * i = s := ⟨_, rfl⟩
        rw [hq, hs] at eor
        have e1 : (x : Int).tmod 128 = (q : Int) := by rw [Int.tmod_eq_emod_of_nonneg (by omega)]; omega
        have e1' : (x : Int) % 128 = (q : Int) := by omega
        have e2 : IntKind.u64.wrap (q : Int) = (q : Int) := by rw [IntKind.wrap_u64]; omega
        have e3 : IntKind.i64.wrap (7 * (i : Int)) = (s : Int) := by rw [IntKind.wrap_i64]; omega
        have e3' : 7 * (i : Int) = (s : Int) := by omega
        have hs0 : (0 : Int) ≤ (s : Int) := by omega
        have hs64 : s ≤ 64 := by omega
        have eor' : Go.bits .or .u64 (z : Int) (IntKind.u64.wrap ((q : Int) * 2 ^ s)) = (y : Int) := by
          rw [← eor]
          unfold shl
          rw [Int.toNat_natCast, show IntKind.bits .u64 = 64 from rfl, Nat.min_eq_left hs64]
        have hyl : y < 18446744073709551616 := by rw [← HYE.out]; exact Nat.mod_lt _ (by omega)
        have hi9 : i ≤ 9 := by omega
        have hi1 : i + 1 ≤ 10 := by omega
        have e4 : IntKind.i64.wrap ((i : Int) + 1) = (i : Int) + 1 := by rw [IntKind.wrap_i64]; omega
        clear hxe hxr hz hy hst hva eor hq hs
        by_cases h128 : x < 128
        · have h128i : decide ((x : Int) < 128) = true := by simp; omega
          have h128n : decide (x < 128) = true := by simp; omega
          have HT := Aside0.mk (ruv_stop HY.out hlt HH.out (by rw [List.getD_eq_getElem?_getD, List.getElem?_eq_getElem hlt, HE.out]; simp; omega))
          rw [HYE.out] at HT
          obtain ⟨T, hT⟩ : ∃ T, b.take (i + 1) = T := ⟨_, rfl⟩
          rw [hT] at HT
          have hTl : T.length = i + 1 := by rw [← hT, List.length_take]; omega
          have hTb : Bytes T := fun x hx => HY.out x (by rw [← hT] at hx; exact List.mem_of_mem_take hx)
          have hCT : (Kd.int .u8).C w (some ad) (i + 1) T := by
            have h := Kd.C_take (m := i + 1) HC.out (by omega)
            rw [hT, hTl] at h
            exact h
          have HCT := Aside0.mk hCT
          have HLd := Aside0.mk HL.out.drew
          have hcv := Kd.C_string (P := Try.prog) (src := 22) (dst := 9) (c := c) Try.underlying22 Try.underlying5 Try.underlying9 (Kd.C_below HCT.out HLd.out.below)
          obtain ⟨i0, hi0, _, _, _⟩ := info_parts UvPinfo
          have hcut := cut_to (P := Try.prog) 22 5 .i64 Try.underlying22 hi0 (some ad) b.length c ((i : Int) + 1) (by omega) (by omega) hc
          rw [show ((i : Int) + 1).toNat = i + 1 from by omega] at hcut
          clear hT hCT hi0
          by_cases heq : uv y = T
          · go_wp2
            go_region_with (first | (go_at_call 17; go_loud ((with_reducible refine (ref_Uvarint_none hyl _).mono ?_); rintro e w5 ⟨v5, rfl, hr5, hb5⟩; have hs5 := HLd.out.made hb5 hr5; rw [heq] at hs5; have h5c := hs5.toString (P := Try.prog) (src := 22) (dst := 9) Try.underlying22 Try.underlying5 Try.underlying9; have hcv5 := Kd.C_string (P := Try.prog) (src := 22) (dst := 9) (c := c) Try.underlying22 Try.underlying5 Try.underlying9 (Kd.C_below HCT.out hs5.below); have HS5 := Aside0.mk hs5; clear hs5 hr5 hb5)))
            all_goals (go_wp2; go_ret2; rw [HT.out, if_pos heq]; exact ⟨rfl, HS5.out.below⟩)
          · have hne : (strOfNums (uv y)).toList ≠ (strOfNums T).toList := fun h => heq (str_inj' (uv_bytes' y) hTb h)
            have hne1 : ((strOfNums (uv y)).toList == (strOfNums T).toList) = false := beq_eq_false_iff_ne.mpr hne
            have hne2 : ((strOfNums (uv y)).toList != (strOfNums T).toList) = true := bne_iff_ne.mpr hne
            go_wp2
            go_region_with (first | (go_at_call 17; go_loud ((with_reducible refine (ref_Uvarint_none hyl _).mono ?_); rintro e w5 ⟨v5, rfl, hr5, hb5⟩; have hs5 := HLd.out.made hb5 hr5; have h5c := hs5.toString (P := Try.prog) (src := 22) (dst := 9) Try.underlying22 Try.underlying5 Try.underlying9; have hcv5 := Kd.C_string (P := Try.prog) (src := 22) (dst := 9) (c := c) Try.underlying22 Try.underlying5 Try.underlying9 (Kd.C_below HCT.out hs5.below); have HS5 := Aside0.mk hs5; clear hs5 hr5 hb5)))
            all_goals (go_wp2; go_ret2; rw [HT.out, if_neg heq]; exact ⟨rfl, HS5.out.below⟩)
        · have h128i : decide ((x : Int) < 128) = false := by simp; omega
          have h128n : decide (x < 128) = false := by simp; omega
          go_wp2
          go_roundw
          case measure => simp [intOf]; omega
          case rel =>
            refine ⟨i + 1, y, hi1, by go_num, rfl, ⟨fun j hj => ?_⟩, ⟨fun h9 => ?_⟩, HL⟩
            · rcases Nat.lt_or_ge j i with h | h
              · exact HH.out j h
              · obtain rfl : j = i := by omega
                rw [List.getD_eq_getElem?_getD, List.getElem?_eq_getElem hlt, HE.out]
                simp
                omega
            · rw [← HYE.out, val_small h9]
      · have h10i : decide ((i : Int) < 10) = false := by simp; omega
        have h10n : decide (i < 10) = false := by simp; omega
        have hr := ruv_end HY.out HH.out (.inl (by omega))
        go_wp2
        go_ret2
        rw [hr]
        exact ⟨rfl, HL.out.below⟩
    · have hlti : decide ((i : Int) < (b.length : Int)) = false := by simp; omega
      have hltn : decide (i < b.length) = false := by simp; omega
      have hr := ruv_end HY.out HH.out (.inr (by omega))
      go_wp2
      go_ret2
      rw [hr]
      exact ⟨rfl, HL.out.below⟩
end Go.Proofs.Ytnkcdopjhjmdnaa.RuW
