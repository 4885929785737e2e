/- What functions of the translation come to, each as a Lean function, and a proof that the call comes to just that; or a law's row, out of its plain law. Written by mp.py, a program of this session, which runs the printer of the kit with stand-in bodies for some library functions.
   What the printed functions of layer 3 on numbers come to: bits.Uvarint, bits.ReadUvarint, in the words of Uv.
   Plain words for a walk's memory: what blocks a call owns, told as a list of assertions, no two of which speak of one block. -/
import Derived.Test.YtmnlbedgkjnodaaDoorZTszOne0
import Derived.Test.YtmnlbedgkjnodaaDoorZTszOne1
import Derived.Laws.Bits64
import Derived.Test.YtmnlbedgkjnodaaDoorWKept
import Derived.Test.YtmnlbedgkjnodaaDoorWMore
import Derived.OneCell
set_option linter.unusedSimpArgs false
set_option linter.unusedVariables false
namespace Go.Proofs.YtmnlbedgkjnodaaDoor.QB
open Go.RowKit Go.Proofs.YtmnlbedgkjnodaaDoorW.PrintWords Go.Proofs.YtmnlbedgkjnodaaDoorW.PrintLast Go.Proofs.YtmnlbedgkjnodaaDoorW.PrintMore
attribute [local go_sem] max2_int min2_int max_two min_two max_three min_three max_four min_four   -- for this text's walks alone
mutual
def bits_ReadUvarint.l0 : Nat → Int → List Int → Int → Int → Option (Int × Int)
  | 0, _, _, _, _ => none
  | k + 1, x4, x7, x8, x9 => if x9 < x8 then (if 0 ≤ x9 then (if x9 < (x7.length : Int) then (if x9 = 9 then (bits_ReadUvarint.j1 k x4 x9 (rd x7 x9) x7 x8 x9 (decide ((rd x7 x9) > 1))) else (bits_ReadUvarint.j1 k x4 x9 (rd x7 x9) x7 x8 x9 false)) else (none)) else (none)) else (some (0, 0))
def bits_ReadUvarint.j1 : Nat → Int → Int → Int → List Int → Int → Int → Bool → Option (Int × Int)
  | 0, _, _, _, _, _, _, _ => none
  | k + 1, x4, x5, x6, x7, x8, x9, x19 => if x19 = true then (some (0, 0)) else (if 0 ≤ (IntKind.u64.wrap (wrap64 (7 * x5))) then (if x6 < 128 then (if x6 = 0 then (if x5 > 0 then (some (0, 0)) else (some (Go.bits .or .u64 x4 (shl .u64 (IntKind.u64.wrap (Go.bits .and .u8 x6 127)) (IntKind.u64.wrap (wrap64 (7 * x5)))), wrap64 (x5 + 1)))) else (some (Go.bits .or .u64 x4 (shl .u64 (IntKind.u64.wrap (Go.bits .and .u8 x6 127)) (IntKind.u64.wrap (wrap64 (7 * x5)))), wrap64 (x5 + 1)))) else (bits_ReadUvarint.l0 k (Go.bits .or .u64 x4 (shl .u64 (IntKind.u64.wrap (Go.bits .and .u8 x6 127)) (IntKind.u64.wrap (wrap64 (7 * x5))))) x7 x8 (wrap64 (x9 + 1)))) else (none))
end
def bits_ReadUvarint.f (k : Nat) (l0 : List Int) : Option (Int × Int) := bits_ReadUvarint.l0 k 0 l0 (l0.length : Int) 0
set_option maxHeartbeats 8000000 in
set_option maxRecDepth 100000 in
theorem bits_ReadUvarint.calls (k : Nat) (A0 : Option Addr) (c0 : Nat) (l0 : List Int) (r1 : Int) (r2 : Int) (w : World) (hr0 : Kd.C (Kd.int .u8) w A0 l0.length l0) (hc0 : l0.length ≤ c0) (h : bits_ReadUvarint.f k l0 = some (r1, r2)) :
    Calls Tryd.prog 35 #[.slice A0 l0.length c0] w fun e w' => e = .returned (.tuple #[.int .u64 r1, .int .i64 r2]) ∧ Drawn0 w w' := by
  have HR0 := Aside0.mk hr0
  have HC0 := Aside0.mk hc0
  clear hr0 hc0
  have H : (bits_ReadUvarint.l0 k 0 l0 (l0.length : Int) 0) = some (r1, r2) := h
  clear h
  have H' := Aside0.mk H
  clear H
  go_enter Tryd.func35, Tryd.ntmps35
  go_wp2
  go_loopg [4, 9] k (fun kq v4 v9 w' => ∃ (x4_1 : Int) (x9_1 : Int), v4 = .int .u64 x4_1 ∧ v9 = .int .i64 x9_1 ∧ Aside0 (bits_ReadUvarint.l0 kq x4_1 l0 (l0.length : Int) x9_1 = some (r1, r2)) ∧ Aside0 (kq ≤ k) ∧ Drawn0 w w')
  case atStart => exact ⟨(0), (0), (by first | rfl | (simp; done) | (simp [*]; done)), (by first | rfl | (simp; done) | (simp [*]; done)), H', ⟨Nat.le_refl _⟩, by repeat (first | exact Drawn0.refl _ | apply Drawn0.step)⟩
  case round =>
    clear H'
    obtain ⟨x4_1, x9_1, rfl, rfl, HA, HK1, ⟨m1, rfl⟩⟩ := hrel
    cases gk with
    | zero => exact absurd HA.out (by simp [bits_ReadUvarint.l0])
    | succ k1 =>
      have H := HA.out
      clear HA
      simp only [bits_ReadUvarint.l0] at H
      by_cases c2 : x9_1 < (l0.length : Int)
      · rw [if_pos c2] at H
        have c2b0 : decide (x9_1 < (l0.length : Int)) = true := decide_eq_true c2
        clear c2
        by_cases c3 : 0 ≤ x9_1
        · rw [if_pos c3] at H
          have c3b0 : decide (0 ≤ x9_1) = true := decide_eq_true c3
          clear c3
          by_cases c4 : x9_1 < (l0.length : Int)
          · rw [if_pos c4] at H
            have c4b0 : decide (x9_1 < (l0.length : Int)) = true := decide_eq_true c4
            clear c4
            have HC5 := Aside0.mk H
            clear H
            have p360 : 0 ≤ (x9_1 : Int) := of_decide_eq_true (by first | (with_reducible assumption) | assumption)
            have q360 : x9_1 < (l0.length : Int) := of_decide_eq_true (by first | (with_reducible assumption) | assumption)
            obtain ⟨ad360, e360, hx360_0⟩ := Kd.at_int HR0.out x9_1 p360 q360
            cases e360
            replace p360 := eq_true p360
            replace q360 := eq_true q360
            go_upto_region 5 with (fail)
            go_cut [19] (fun v19 wc => ∃ (kq : Nat) (x19_4 : Bool), v19 = .bool x19_4 ∧ Aside0 (bits_ReadUvarint.j1 kq x4_1 x9_1 (rd l0 x9_1) l0 (l0.length : Int) x9_1 x19_4 = some (r1, r2)) ∧ Aside0 (kq ≤ k1) ∧ Drawn0 w wc)
            case first =>
              have H := HC5.out
              clear HC5
              by_cases c6 : x9_1 = 9
              · rw [if_pos c6] at H
                have c6b0 : (x9_1 == 9) = true := beq_iff_eq.mpr c6
                have c6b1 : (x9_1 != 9) = false := bne_eq_false_iff_eq.mpr c6
                clear c6
                (first | rw [c6b0] | (simp only [i64_w, i32_w]; rw [c6b0]) | skip)
                have H' := Aside0.mk H
                clear H
                go_wp2
                go_meet
                case rel => exact ⟨_, (decide ((rd l0 x9_1) > 1)), (by first | rfl | (simp; done) | (simp [*]; done)), H', ⟨by have := HK1.out; first | omega | exact Nat.le_refl _⟩, by repeat (first | exact Drawn0.refl _ | apply Drawn0.step)⟩
              · rw [if_neg c6] at H
                have c6b0 : (x9_1 == 9) = false := beq_eq_false_iff_ne.mpr c6
                have c6b1 : (x9_1 != 9) = true := bne_iff_ne.mpr c6
                (first | rw [c6b0] | (simp only [i64_w, i32_w]; rw [c6b0]) | skip)
                have H' := Aside0.mk H
                clear H
                go_wp2
                go_meet
                case rel => exact ⟨_, (false), (by first | rfl | (simp; done) | (simp [*]; done)), H', ⟨by have := HK1.out; first | omega | exact Nat.le_refl _⟩, by repeat (first | exact Drawn0.refl _ | apply Drawn0.step)⟩
            case rest =>
              clear HC5
              try clear c2
              try clear c2b0
              try clear p2
              try clear c3
              try clear c3b0
              try clear p3
              try clear q3
              try clear hx3
              try clear c4
              try clear c4b0
              try clear c6
              try clear c6b0
              try clear c6b1
              try clear hx360_0
              try clear p360
              try clear q360
              obtain ⟨kq, x19_4, rfl, HA, HJ4, ⟨mc4, rfl⟩⟩ := hcut
              cases kq with
              | zero => exact absurd HA.out (by simp [bits_ReadUvarint.j1])
              | succ kj4 =>
                have H := HA.out
                clear HA
                simp only [bits_ReadUvarint.j1] at H
                by_cases c7 : x19_4 = true
                · subst c7
                  have H1 : (some (0, 0)) = some (r1, r2) := by rw [if_pos rfl] at H; exact H
                  clear H
                  have H := H1
                  clear H1
                  simp only [Option.some.injEq, Prod.mk.injEq] at H
                  obtain ⟨rfl, rfl⟩ := H
                  go_wp2
                  go_ret2
                  exact ⟨by first | rfl | (simp; done) | (simp [*]; done), by repeat (first | exact Drawn0.refl _ | apply Drawn0.step)⟩
                · replace c7 := Bool.eq_false_iff.mpr c7
                  subst c7
                  have H1 : (if 0 ≤ (IntKind.u64.wrap (wrap64 (7 * x9_1))) then (if (rd l0 x9_1) < 128 then (if (rd l0 x9_1) = 0 then (if x9_1 > 0 then (some (0, 0)) else (some (Go.bits .or .u64 x4_1 (shl .u64 (IntKind.u64.wrap (Go.bits .and .u8 (rd l0 x9_1) 127)) (IntKind.u64.wrap (wrap64 (7 * x9_1)))), wrap64 (x9_1 + 1)))) else (some (Go.bits .or .u64 x4_1 (shl .u64 (IntKind.u64.wrap (Go.bits .and .u8 (rd l0 x9_1) 127)) (IntKind.u64.wrap (wrap64 (7 * x9_1)))), wrap64 (x9_1 + 1)))) else (bits_ReadUvarint.l0 kj4 (Go.bits .or .u64 x4_1 (shl .u64 (IntKind.u64.wrap (Go.bits .and .u8 (rd l0 x9_1) 127)) (IntKind.u64.wrap (wrap64 (7 * x9_1))))) l0 (l0.length : Int) (wrap64 (x9_1 + 1)))) else (none)) = some (r1, r2) := by rw [if_neg (show ¬ (false = true) by decide)] at H; exact H
                  clear H
                  have H := H1
                  clear H1
                  obtain ⟨ji8, hji8⟩ : ∃ j_ : Int, (IntKind.u64.wrap (wrap64 (7 * x9_1))) = j_ := ⟨_, rfl⟩
                  replace H : (if 0 ≤ (ji8) then (if (rd l0 x9_1) < 128 then (if (rd l0 x9_1) = 0 then (if x9_1 > 0 then (some (0, 0)) else (some (Go.bits .or .u64 x4_1 (shl .u64 (IntKind.u64.wrap (Go.bits .and .u8 (rd l0 x9_1) 127)) (ji8)), wrap64 (x9_1 + 1)))) else (some (Go.bits .or .u64 x4_1 (shl .u64 (IntKind.u64.wrap (Go.bits .and .u8 (rd l0 x9_1) 127)) (ji8)), wrap64 (x9_1 + 1)))) else (bits_ReadUvarint.l0 kj4 (Go.bits .or .u64 x4_1 (shl .u64 (IntKind.u64.wrap (Go.bits .and .u8 (rd l0 x9_1) 127)) (ji8))) l0 (l0.length : Int) (wrap64 (x9_1 + 1)))) else (none)) = some (r1, r2) := by first | (rw [hji8] at H; exact H) | (simp only [hji8] at H ⊢; exact H)
                  by_cases c9 : 0 ≤ (ji8)
                  · rw [if_pos c9] at H
                    have c9b0 := eq_true c9
                    have c9b1 : decide (0 ≤ (ji8)) = true := decide_eq_true c9
                    clear c9
                    obtain ⟨ji10, hji10⟩ : ∃ j_ : Int, (shl .u64 (IntKind.u64.wrap (Go.bits .and .u8 (rd l0 x9_1) 127)) (ji8)) = j_ := ⟨_, rfl⟩
                    replace H : (if (rd l0 x9_1) < 128 then (if (rd l0 x9_1) = 0 then (if x9_1 > 0 then (some (0, 0)) else (some (Go.bits .or .u64 x4_1 (ji10), wrap64 (x9_1 + 1)))) else (some (Go.bits .or .u64 x4_1 (ji10), wrap64 (x9_1 + 1)))) else (bits_ReadUvarint.l0 kj4 (Go.bits .or .u64 x4_1 (ji10)) l0 (l0.length : Int) (wrap64 (x9_1 + 1)))) = some (r1, r2) := by first | (rw [hji10] at H; exact H) | (simp only [hji10] at H ⊢; exact H)
                    have hji10_ : (IntKind.u64.wrap ((IntKind.u64.wrap (Go.bits .and .u8 (rd l0 x9_1) 127)) * 2 ^ min (ji8).toNat 64)) = ji10 := hji10
                    have hji10z : (ji8) ≤ 64 → (IntKind.u64.wrap ((IntKind.u64.wrap (Go.bits .and .u8 (rd l0 x9_1) 127)) * 2 ^ (ji8).toNat)) = ji10 := shl_small hji10
                    by_cases c11 : (rd l0 x9_1) < 128
                    · rw [if_pos c11] at H
                      have c11b0 : decide ((rd l0 x9_1) < 128) = true := decide_eq_true c11
                      clear c11
                      by_cases c12 : (rd l0 x9_1) = 0
                      · rw [if_pos c12] at H
                        have c12b0 : ((rd l0 x9_1) == 0) = true := beq_iff_eq.mpr c12
                        have c12b1 : ((rd l0 x9_1) != 0) = false := bne_eq_false_iff_eq.mpr c12
                        clear c12
                        by_cases c13 : x9_1 > 0
                        · rw [if_pos c13] at H
                          have c13b0 : decide (0 < x9_1) = true := decide_eq_true c13
                          clear c13
                          simp only [Option.some.injEq, Prod.mk.injEq] at H
                          obtain ⟨rfl, rfl⟩ := H
                          go_wp2
                          go_ret2
                          exact ⟨by first | rfl | (simp; done) | (simp only [← hji8, ← hji10] <;> (first | rfl | simp)) | (simp [*]; done), by repeat (first | exact Drawn0.refl _ | apply Drawn0.step)⟩
                        · rw [if_neg c13] at H
                          have c13b0 : decide (0 < x9_1) = false := decide_eq_false c13
                          clear c13
                          simp only [Option.some.injEq, Prod.mk.injEq] at H
                          obtain ⟨rfl, rfl⟩ := H
                          go_wp2
                          go_ret2
                          exact ⟨by first | rfl | (simp; done) | (simp only [← hji8, ← hji10] <;> (first | rfl | simp)) | (simp [*]; done), by repeat (first | exact Drawn0.refl _ | apply Drawn0.step)⟩
                      · rw [if_neg c12] at H
                        have c12b0 : ((rd l0 x9_1) == 0) = false := beq_eq_false_iff_ne.mpr c12
                        have c12b1 : ((rd l0 x9_1) != 0) = true := bne_iff_ne.mpr c12
                        simp only [Option.some.injEq, Prod.mk.injEq] at H
                        obtain ⟨rfl, rfl⟩ := H
                        go_wp2
                        go_ret2
                        exact ⟨by first | rfl | (simp; done) | (simp only [← hji8, ← hji10] <;> (first | rfl | simp)) | (simp [*]; done), by repeat (first | exact Drawn0.refl _ | apply Drawn0.step)⟩
                    · rw [if_neg c11] at H
                      have c11b0 : decide ((rd l0 x9_1) < 128) = false := decide_eq_false c11
                      clear c11
                      have H' := Aside0.mk H
                      clear H
                      go_wp2
                      go_roundg kj4
                      case measure => have := HK1.out; have := HJ4.out; omega
                      case rel => exact ⟨(Go.bits .or .u64 x4_1 (ji10)), (wrap64 (x9_1 + 1)), (by first | rfl | (simp; done) | (simp only [← hji10] <;> (first | rfl | simp)) | (simp [*]; done)), (by first | rfl | (simp; done) | (simp [*]; done)), H', ⟨by have := HK1.out; have := HJ4.out; omega⟩, by repeat (first | exact Drawn0.refl _ | apply Drawn0.step)⟩
                  · rw [if_neg c9] at H
                    exact absurd H (by simp)
          · rw [if_neg c4] at H
            exact absurd H (by simp)
        · rw [if_neg c3] at H
          exact absurd H (by simp)
      · rw [if_neg c2] at H
        have c2b0 : decide (x9_1 < (l0.length : Int)) = false := decide_eq_false c2
        clear c2
        simp only [Option.some.injEq, Prod.mk.injEq] at H
        obtain ⟨rfl, rfl⟩ := H
        go_wp2
        go_ret2
        exact ⟨by first | rfl | (simp; done) | (simp [*]; done), by repeat (first | exact Drawn0.refl _ | apply Drawn0.step)⟩
-- NOT PRINTED: function 36 (bits_NewReader)
end Go.Proofs.YtmnlbedgkjnodaaDoor.QB
namespace Go.Proofs.YtmnlbedgkjnodaaDoor.UvP
open Go.RowKit Go.Proofs.YtmnlbedgkjnodaaDoorW.PrintWords Go.Proofs.YtmnlbedgkjnodaaDoorW.PrintLast Go.Proofs.YtmnlbedgkjnodaaDoorW.PrintMore Go.Proofs.YtmnlbedgkjnodaaDoor.QB Go.Proofs.YtmnlbedgkjnodaaDoor.Uv
theorem clone_f {l : List Int} (h : l.length < 140737488355328) : slices_Clone_byte_byte.f l = some l := by simp [slices_Clone_byte_byte.f, h]
theorem or128 : ∀ a : Nat, a < 256 → a ||| 128 = a % 128 + 128 := by decide +kernel
theorem byte_or128 (v : Nat) : Go.bits .or .u8 ((v : Int) % 256) 128 = ((v % 128 + 128 : Nat) : Int) := by
  have h := u8_or_nat (v % 256) 128 (by omega) (by omega)
  rw [or128 _ (by omega)] at h
  have e : (((v % 256 : Nat) : Int)) = (v : Int) % 256 := by omega
  rw [e] at h
  rw [show ((128 : Nat) : Int) = 128 from rfl] at h
  rw [h]
  congr 1
  omega
theorem bits_Uvarint_l0 (v : Nat) : ∀ (k : Nat) (acc : List Int), (uv v).length ≤ k → acc.length + k < 140737488355328 → bits_Uvarint.l0 k (v : Int) acc = some (acc ++ uv v) := by
  induction v using uv_induct with
  | h0 v h =>
    intro k acc hk ha
    rw [uv_small h] at hk ⊢
    obtain ⟨k, rfl⟩ : ∃ m, k = m + 1 := ⟨k - 1, by simp at hk; omega⟩
    simp only [bits_Uvarint.l0]
    rw [if_neg (by omega), if_pos (by omega), show (v : Int) % 256 = v from by omega]
  | h1 v h ih =>
    intro k acc hk ha
    rw [uv_big h] at hk ⊢
    simp only [List.length_cons] at hk
    obtain ⟨k, rfl⟩ : ∃ m, k = m + 1 := ⟨k - 1, by omega⟩
    simp only [bits_Uvarint.l0]
    rw [if_pos (by omega), if_pos (by omega), byte_or128, show (v : Int) / 128 = ((v / 128 : Nat) : Int) from by omega, ih k _ (by omega) (by simp; omega)]
    simp
theorem bits_Uvarint_f {v k : Nat} {l : List Int} (hv : v < 18446744073709551616) (hk : 10 ≤ k) (hk2 : k ≤ 1000000) (hl : l.length ≤ 140737480000000) : bits_Uvarint.f k l (v : Int) = some (l ++ uv v) := by
  unfold bits_Uvarint.f
  rw [clone_f (by omega)]
  simp only [Option.bind_some]
  exact bits_Uvarint_l0 v k l (Nat.le_trans (uv_length10 hv) hk) (by omega)
theorem or_shl0 {acc x i : Nat} (hi : i ≤ 9) (ha : acc < 2 ^ (7 * i)) (hx : x < 128) :
    Go.bits .or .u64 (acc : Int) (shl .u64 (x : Int) ((7 * i : Nat) : Int)) = ((acc + x * 2 ^ (7 * i) % 18446744073709551616 : Nat) : Int) := by
  have hp : (2 : Nat) ^ (7 * i) ≤ 2 ^ 63 := Nat.pow_le_pow_right (by omega) (by omega)
  have e : shl .u64 (x : Int) ((7 * i : Nat) : Int) = ((x * 2 ^ (7 * i) % 18446744073709551616 : Nat) : Int) := by
    unfold shl
    rw [IntKind.wrap_u64, Int.toNat_natCast, show IntKind.bits .u64 = 64 from rfl, Nat.min_eq_left (by omega), Int.natCast_emod, Int.natCast_mul, Int.natCast_pow]
    rfl
  rw [e, u64_or_nat _ _ (by omega) (Nat.mod_lt _ (by omega))]
  congr 1
  rw [Nat.or_comm, nat_join (7 * i) _ _ ?_ ha, Nat.add_comm]
  have hd : 2 ^ (7 * i) ∣ 18446744073709551616 := by
    have := Nat.pow_dvd_pow 2 (show 7 * i ≤ 64 by omega)
    rwa [show (2 : Nat) ^ 64 = 18446744073709551616 from rfl] at this
  rw [Nat.mod_mod_of_dvd _ hd]
  exact Nat.mul_mod_left _ _
theorem or_shl {acc c i : Nat} (hi : i ≤ 9) (ha : acc < 2 ^ (7 * i)) (hc : c < 256) (h9 : i = 9 → c ≤ 1) :
    Go.bits .or .u64 (acc : Int) (shl .u64 (IntKind.u64.wrap (Go.bits .and .u8 (c : Int) 127)) (IntKind.u64.wrap (wrap64 (7 * (i : Int))))) = ((acc + c % 128 * 2 ^ (7 * i) : Nat) : Int) := by
  have e1 : IntKind.u64.wrap (Go.bits .and .u8 (c : Int) 127) = ((c % 128 : Nat) : Int) := by
    have h := u8_and_nat c 127 hc (by omega)
    rw [nat_mask7] at h
    rw [show ((127 : Nat) : Int) = 127 from rfl] at h
    rw [h, IntKind.wrap_u64]
    omega
  have e2 : IntKind.u64.wrap (wrap64 (7 * (i : Int))) = ((7 * i : Nat) : Int) := by
    rw [IntKind.wrap_u64]
    unfold wrap64
    omega
  rw [e1, e2, or_shl0 hi ha (by omega), Nat.mod_eq_of_lt]
  rcases Nat.lt_or_ge i 9 with hlt | hge
  · have : (2 : Nat) ^ (7 * i) ≤ 2 ^ (7 * 8) := Nat.pow_le_pow_right (by omega) (by omega)
    have : c % 128 * 2 ^ (7 * i) ≤ 127 * 2 ^ (7 * 8) := Nat.mul_le_mul (by omega) this
    omega
  · have e : i = 9 := by omega
    subst e
    have : c ≤ 1 := h9 rfl
    have : c % 128 * 2 ^ (7 * 9) ≤ 1 * 2 ^ (7 * 9) := Nat.mul_le_mul_right _ (by omega)
    omega
def Bytes (l : List Int) : Prop := ∀ x ∈ l, 0 ≤ x ∧ x < 256
theorem rd_nat {l : List Int} {i : Nat} (h : i < l.length) : rd l (i : Int) = l[i] := by
  unfold rd
  rw [Int.toNat_natCast, List.getD_eq_getElem?_getD, List.getElem?_eq_getElem h]
  rfl
theorem wrap_nonneg (x : Int) : 0 ≤ IntKind.u64.wrap x := by
  rw [IntKind.wrap_u64]
  exact Int.emod_nonneg _ (by decide)
theorem wrap_succ {i : Nat} (h : i ≤ 2000) : wrap64 ((i : Int) + 1) = ((i + 1 : Nat) : Int) := by
  unfold wrap64
  omega
set_option maxHeartbeats 1000000 in
theorem bits_Read_l0 (l : List Int) (hb : Bytes l) (hl : l.length ≤ 140737488355328) : ∀ (d i acc k : Nat), i + d = 10 → acc < 2 ^ (7 * i) → 2 * d < k → (d = 0 → l.length ≤ i) →
    bits_ReadUvarint.l0 k (acc : Int) l (l.length : Int) (i : Int) = some (ruvGo i acc (l.drop i)) := by
  intro d
  induction d with
  | zero =>
    intro i acc k hi ha hk h0
    obtain ⟨k, rfl⟩ : ∃ m, k = m + 1 := ⟨k - 1, by omega⟩
    simp only [bits_ReadUvarint.l0]
    rw [if_neg (by have := h0 rfl; omega), List.drop_eq_nil_of_le (h0 rfl)]
    simp [ruvGo]
  | succ d ih =>
    intro i acc k hi ha hk _
    obtain ⟨k, rfl⟩ : ∃ m, k = m + 2 := ⟨k - 2, by omega⟩
    by_cases hlt : i < l.length
    · have hc := hb l[i] (List.getElem_mem hlt)
      obtain ⟨c, hce⟩ : ∃ c : Nat, l[i] = (c : Int) := ⟨l[i].toNat, by omega⟩
      have hcl : c < 256 := by omega
      rw [List.drop_eq_getElem_cons hlt, hce]
      simp only [bits_ReadUvarint.l0, bits_ReadUvarint.j1, ruvGo]
      rw [rd_nat hlt, hce, if_pos (by omega), if_pos (by omega), if_pos (by omega)]
      have hw := wrap_succ (show i ≤ 2000 by omega)
      have hs := wrap_nonneg (wrap64 (7 * (i : Int)))
      by_cases h9 : i = 9
      · rw [if_pos (by omega)]
        by_cases hc1 : (c : Int) > 1
        · rw [if_pos (by simpa using hc1), if_pos ⟨h9, hc1⟩]
        · rw [if_neg (by simpa using hc1), if_neg (show ¬ (i = 9 ∧ (c : Int) > 1) from fun h => hc1 h.2), if_pos hs]
          have h128 : (c : Int) < 128 := by omega
          rw [if_pos h128, if_pos h128, or_shl (by omega) ha hcl (by omega), hw]
          by_cases hz : (c : Int) = 0
          · rw [if_pos hz, if_pos (show (i : Int) > 0 from by omega), if_pos (show (c : Int) = 0 ∧ 0 < i from ⟨hz, by omega⟩)]
          · rw [if_neg hz, if_neg (show ¬ ((c : Int) = 0 ∧ 0 < i) from fun h => hz h.1), Int.toNat_natCast]
      · rw [if_neg (show ¬ ((i : Int) = 9) from by omega), if_neg (by simp), if_neg (show ¬ (i = 9 ∧ (c : Int) > 1) from fun h => h9 h.1), if_pos hs, or_shl (by omega) ha hcl (by omega), hw]
        by_cases h128 : (c : Int) < 128
        · rw [if_pos h128, if_pos h128]
          by_cases hz : (c : Int) = 0
          · rw [if_pos hz]
            by_cases hi0 : 0 < i
            · rw [if_pos (show (i : Int) > 0 from by omega), if_pos ⟨hz, hi0⟩]
            · rw [if_neg (show ¬ ((i : Int) > 0) from by omega), if_neg (show ¬ ((c : Int) = 0 ∧ 0 < i) from fun h => hi0 h.2), Int.toNat_natCast]
          · rw [if_neg hz, if_neg (show ¬ ((c : Int) = 0 ∧ 0 < i) from fun h => hz h.1), Int.toNat_natCast]
        · rw [if_neg h128, if_neg h128, Int.toNat_natCast]
          have hp := two7 i
          refine ih (i + 1) (acc + c % 128 * 2 ^ (7 * i)) k (by omega) ?_ (by omega) (by omega)
          rw [pow7]
          have : c % 128 * 2 ^ (7 * i) ≤ 127 * 2 ^ (7 * i) := Nat.mul_le_mul_right _ (by omega)
          omega
    · simp only [bits_ReadUvarint.l0]
      rw [if_neg (by omega), List.drop_eq_nil_of_le (by omega)]
      simp [ruvGo]
theorem bits_Read_f {l : List Int} {k : Nat} (hb : Bytes l) (hl : l.length ≤ 140737488355328) (hk : 21 ≤ k) : bits_ReadUvarint.f k l = some (ruv l) := by
  unfold bits_ReadUvarint.f ruv
  exact bits_Read_l0 l hb hl 10 0 0 k (by omega) (by omega) (by omega) (by omega)
end Go.Proofs.YtmnlbedgkjnodaaDoor.UvP
namespace Go.Proofs.YtmnlbedgkjnodaaDoor.Sl
open Go.RowKit Go.Proofs.YtmnlbedgkjnodaaDoorW.PrintWords Go.Proofs.YtmnlbedgkjnodaaDoorW.PrintLast Go.Proofs.YtmnlbedgkjnodaaDoorW.PrintMore
structure Asn where
  p : Nat → World → (Nat → Prop) → Prop
  loc : ∀ {B : Nat} {w w' : World} {F : Nat → Prop}, p B w F → (∀ k, F k → w'.heap[k]? = w.heap[k]?) → p B w' F
def Seps (B : Nat) (w : World) : List Asn → (Nat → Prop) → Prop
  | [], _ => True
  | A :: L, F => ∃ G : Nat → Prop, A.p B w G ∧ (∀ k, G k → F k) ∧ Seps B w L (fun k => F k ∧ ¬ G k)
section
variable {B : Nat} {w w' : World}
theorem Seps.mono : ∀ {L : List Asn} {F F' : Nat → Prop}, Seps B w L F → (∀ k, F k → F' k) → Seps B w L F'
  | [], _, _, _, _ => trivial
  | _ :: _, _, _, ⟨G, h1, h2, h3⟩, hF => ⟨G, h1, fun k hk => hF k (h2 k hk), h3.mono (fun k hk => ⟨hF k hk.1, hk.2⟩)⟩
theorem Seps.loc : ∀ {L : List Asn} {F : Nat → Prop}, Seps B w L F → (∀ k, F k → w'.heap[k]? = w.heap[k]?) → Seps B w' L F
  | [], _, _, _ => trivial
  | A :: _, _, ⟨G, h1, h2, h3⟩, hw => ⟨G, A.loc h1 (fun k hk => hw k (h2 k hk)), h2, h3.loc (fun k hk => hw k hk.1)⟩
theorem Seps.swap {A A' : Asn} {L : List Asn} {F : Nat → Prop} : Seps B w (A :: A' :: L) F → Seps B w (A' :: A :: L) F := by
  rintro ⟨G, h1, h2, G', h3, h4, h5⟩
  exact ⟨G', h3, fun k hk => (h4 k hk).1, G, h1, fun k hk => ⟨h2 k hk, fun hk' => (h4 k hk').2 hk⟩, h5.mono (fun k hk => ⟨⟨hk.1.1, hk.2⟩, hk.1.2⟩)⟩
theorem Seps.nth {A : Asn} : ∀ (i : Nat) {L : List Asn} {F : Nat → Prop}, Seps B w L F → L[i]? = some A → Seps B w (A :: L.eraseIdx i) F
  | 0, [], _, _, h => by cases h
  | 0, A' :: L, F, h, e => by
    have e' : A' = A := by simpa using e
    subst e'
    exact h
  | i + 1, [], _, _, h => by simp at h
  | i + 1, A' :: L, F, ⟨G, h1, h2, h3⟩, e => by
    have h4 := Seps.nth i h3 (by simpa using e)
    exact Seps.swap ⟨G, h1, h2, h4⟩
theorem Seps.tail {A : Asn} {L : List Asn} {F : Nat → Prop} : Seps B w (A :: L) F → Seps B w L F := fun ⟨_, _, _, h⟩ => h.mono (fun _ hk => hk.1)
theorem Seps.app : ∀ {L1 L : List Asn} {F G : Nat → Prop}, Seps B w L1 G → (∀ k, G k → F k) → Seps B w L (fun k => F k ∧ ¬ G k) → Seps B w (L1 ++ L) F
  | [], _, _, _, _, _, h => h.mono (fun _ hk => hk.1)
  | A :: L1, L, F, G, ⟨G1, h1, h2, h3⟩, hG, h => ⟨G1, h1, fun k hk => hG k (h2 k hk), Seps.app h3 (fun k hk => ⟨hG k hk.1, hk.2⟩) (h.mono (fun k hk => ⟨⟨hk.1, fun hk' => hk.2 (h2 k hk')⟩, fun hk' => hk.2 hk'.1⟩))⟩
theorem Seps.unapp : ∀ {L1 L : List Asn} {F : Nat → Prop}, Seps B w (L1 ++ L) F → ∃ G : Nat → Prop, Seps B w L1 G ∧ (∀ k, G k → F k) ∧ Seps B w L (fun k => F k ∧ ¬ G k)
  | [], _, _, h => ⟨fun _ => False, trivial, fun _ hk => hk.elim, h.mono (fun _ hk => ⟨hk, fun h => h⟩)⟩
  | A :: L1, L, F, ⟨G1, h1, h2, h3⟩ => by
    obtain ⟨G2, h4, h5, h6⟩ := Seps.unapp h3
    refine ⟨fun k => G1 k ∨ G2 k, ⟨G1, h1, fun k hk => .inl hk, h4.mono (fun k hk => ⟨.inr hk, (h5 k hk).2⟩)⟩, fun k hk => hk.elim (h2 k) (fun h => (h5 k h).1), h6.mono (fun k hk => ⟨hk.1.1, fun h => h.elim hk.1.2 hk.2⟩)⟩
end
structure Sat (w0 w : World) (L : List Asn) : Prop where
  below : Below w0.heap.size w0 w
  seps : Seps w0.heap.size w L (fun k => w0.heap.size ≤ k ∧ k < w.heap.size)
section
variable {w0 w w' : World} {L L1 : List Asn} {A A' : Asn}
theorem Sat.start (w : World) : Sat w w [] := ⟨Below.refl _ _, trivial⟩
theorem Sat.nth (h : Sat w0 w L) (i : Nat) (e : L[i]? = some A) : Sat w0 w (A :: L.eraseIdx i) := ⟨h.below, h.seps.nth i e⟩
theorem Sat.tail (h : Sat w0 w (A :: L)) : Sat w0 w L := ⟨h.below, h.seps.tail⟩
theorem Sat.size (h : Sat w0 w L) : w0.heap.size ≤ w.heap.size := h.below.size
theorem Sat.step (h : Sat w0 w L) (hb : Below w.heap.size w w') : Sat w0 w' L :=
  ⟨below_step h.below hb, (h.seps.loc (fun k hk => hb.block k hk.2)).mono (fun k hk => ⟨hk.1, Nat.lt_of_lt_of_le hk.2 hb.size⟩)⟩
theorem Sat.alloc (h : Sat w0 w L) (o : Obj) : Sat w0 (w.alloc o) L := h.step (below_alloc (Below.refl _ _) o)
theorem Sat.drewN (h : Sat w0 w L) (m : Nat) : Sat w0 (w.drewN m) L := h.step (pw_below_drewN (Below.refl _ _) m)
theorem Sat.drew (h : Sat w0 w L) : Sat w0 w.drew L := h.step (below_drew (Below.refl _ _))
theorem Sat.turn (h : Sat w0 w (A :: L)) (hs : ∀ G : Nat → Prop, A.p w0.heap.size w G → (∀ k, G k → w0.heap.size ≤ k ∧ k < w.heap.size) →
    ∃ G' : Nat → Prop, A'.p w0.heap.size w' G' ∧ Below w0.heap.size w0 w' ∧ w.heap.size ≤ w'.heap.size ∧ (∀ k, k < w.heap.size → ¬ G k → w'.heap[k]? = w.heap[k]?) ∧ (∀ k, G' k → (G k ∨ w.heap.size ≤ k) ∧ k < w'.heap.size)) : Sat w0 w' (A' :: L) := by
  obtain ⟨G, h1, h2, h3⟩ := h.seps
  obtain ⟨G', h4, h5, h6, h7, h8⟩ := hs G h1 h2
  refine ⟨h5, G', h4, fun k hk => ⟨?_, (h8 k hk).2⟩, (h3.loc (fun k hk => h7 k hk.1.2 hk.2)).mono (fun k hk => ⟨⟨hk.1.1, Nat.lt_of_lt_of_le hk.1.2 h6⟩, fun hk' => ?_⟩)⟩
  · rcases (h8 k hk).1 with hg | hg
    · exact (h2 k hg).1
    · exact Nat.le_trans h.size hg
  · rcases (h8 k hk').1 with hg | hg
    · exact hk.2 hg
    · have := hk.1.2
      omega
theorem Sat.push (h : Sat w0 w L) (hb : Below w.heap.size w w') {G' : Nat → Prop} (hA : A'.p w0.heap.size w' G') (hG : ∀ k, G' k → w.heap.size ≤ k ∧ k < w'.heap.size) : Sat w0 w' (A' :: L) :=
  ⟨below_step h.below hb, G', hA, fun k hk => ⟨Nat.le_trans h.size (hG k hk).1, (hG k hk).2⟩, (h.seps.loc (fun k hk => hb.block k hk.2)).mono (fun k hk => ⟨⟨hk.1, Nat.lt_of_lt_of_le hk.2 hb.size⟩, fun hk' => by have := (hG k hk').1; have := hk.2; omega⟩)⟩
theorem Sat.imp (h : Sat w0 w (A :: L)) (hs : ∀ G : Nat → Prop, A.p w0.heap.size w G → A'.p w0.heap.size w G) : Sat w0 w (A' :: L) := by
  obtain ⟨G, h1, h2, h3⟩ := h.seps
  exact ⟨h.below, G, hs G h1, h2, h3⟩
theorem Sat.get (h : Sat w0 w (A :: L)) : ∃ G : Nat → Prop, A.p w0.heap.size w G ∧ (∀ k, G k → w0.heap.size ≤ k ∧ k < w.heap.size) := by
  obtain ⟨G, h1, h2, _⟩ := h.seps
  exact ⟨G, h1, h2⟩
end
def All (L : List Asn) : Asn := ⟨fun B w F => Seps B w L F, fun h hw => h.loc hw⟩
def Ex {α : Type} (f : α → Asn) : Asn := ⟨fun B w F => ∃ x, (f x).p B w F, fun ⟨x, h⟩ hw => ⟨x, (f x).loc h hw⟩⟩
def Fact (P : Prop) : Asn := ⟨fun _ _ _ => P, fun h _ => h⟩
section
variable {w0 w : World} {L L1 : List Asn} {A : Asn}
theorem Sat.opened (h : Sat w0 w (All L1 :: L)) : Sat w0 w (L1 ++ L) := by
  obtain ⟨G, h1, h2, h3⟩ := h.seps
  exact ⟨h.below, Seps.app h1 h2 h3⟩
theorem Sat.closed (h : Sat w0 w (L1 ++ L)) : Sat w0 w (All L1 :: L) := by
  obtain ⟨G, h1, h2, h3⟩ := Seps.unapp h.seps
  exact ⟨h.below, G, h1, h2, h3⟩
theorem Sat.some_ {α : Type} {f : α → Asn} (h : Sat w0 w (Ex f :: L)) : ∃ x, Sat w0 w (f x :: L) := by
  obtain ⟨G, ⟨x, h1⟩, h2, h3⟩ := h.seps
  exact ⟨x, h.below, G, h1, h2, h3⟩
theorem Sat.any {α : Type} {f : α → Asn} (x : α) (h : Sat w0 w (f x :: L)) : Sat w0 w (Ex f :: L) := h.imp (fun _ hg => ⟨x, hg⟩)
theorem Sat.put {P : Prop} (hp : P) (h : Sat w0 w L) : Sat w0 w (Fact P :: L) := ⟨h.below, fun _ => False, hp, fun _ hk => hk.elim, h.seps.mono (fun _ hk => ⟨hk, fun h => h⟩)⟩
end
def Blk (g : Nat) (cs : Array Value) (t : TypeId) : Asn := ⟨fun _ w F => F g ∧ w.heap[g]? = some (.cells cs t (0, 0)), fun h hw => ⟨h.1, (hw _ h.1).trans h.2⟩⟩
section
variable {w0 w : World} {L : List Asn} {g : Nat} {cs : Array Value} {t : TypeId}
theorem Sat.blk (h : Sat w0 w (Blk g cs t :: L)) : w.heap[g]? = some (.cells cs t (0, 0)) := by
  obtain ⟨G, h1, _⟩ := h.get
  exact h1.2
theorem Sat.ge (h : Sat w0 w (Blk g cs t :: L)) : w0.heap.size ≤ g := by
  obtain ⟨G, h1, h2⟩ := h.get
  exact (h2 g h1.1).1
theorem Sat.lt (h : Sat w0 w (Blk g cs t :: L)) : g < w.heap.size := by
  obtain ⟨G, h1, h2⟩ := h.get
  exact (h2 g h1.1).2
theorem Sat.cell (h : Sat w0 w (Blk g cs t :: L)) (j : Nat) {v : Value} (hv : cs[j]? = some v) : w.cell? ⟨g, j, none⟩ = some v := by
  have := h.blk
  simp [World.cell?, this, hv]
theorem Sat.free (h : Sat w0 w (Blk g cs t :: L)) (j : Nat) : w.frozen? ⟨g, j, none⟩ = false := by
  have := h.blk
  simp [World.frozen?, this]
theorem Sat.newBlk (h : Sat w0 w L) (cs : Array Value) (t : TypeId) : Sat w0 (w.alloc (.cells cs t)) (Blk w.heap.size cs t :: L) :=
  h.push (below_alloc (Below.refl _ _) _) (G' := fun k => k = w.heap.size) ⟨rfl, by simpa using heap_alloc_new w (.cells cs t)⟩ (fun k hk => by subst hk; simp)
theorem Sat.setBlk (h : Sat w0 w (Blk g cs t :: L)) (j : Nat) (u : Value) : Sat w0 (w.setCell ⟨g, j, none⟩ u) (Blk g (cs.setIfInBounds j u) t :: L) := by
  have hge := h.ge
  have hlt := h.lt
  have hb := h.below
  refine h.turn (fun G hG hGB => ⟨fun k => k = g, ⟨rfl, ?_⟩, hb.setCell (p := ⟨g, j, none⟩) hge u, by simp [World.setCell], fun k _ hn => Below.heap_setCell w ⟨g, j, none⟩ u k (fun e => hn (by rw [e]; exact hG.1)), fun k hk => by subst hk; exact ⟨.inl hG.1, by simpa [World.setCell] using hlt⟩⟩)
  simp [World.setCell, Array.getElem?_modify, hG.2]
end
def Row {α : Type} (d : Kd α) (e : Nat) (v : Value) (xs : List α) : Asn := ⟨fun B w F => d.R e w B F v xs, fun h hw => Kd.R_move h hw⟩
def RowQ {α : Type} (d : Kd α) (e : Nat) (v : Value) (xs : List α) : Asn := ⟨fun B w F => d.Q e w B F v xs, fun h hw => Kd.Q_move h hw⟩
section
variable {α : Type} {d : Kd α} {e : Nat} {v : Value} {xs : List α} {w0 w w' : World} {L : List Asn}
theorem Sat.nilRow (d : Kd α) (e : Nat) (h : Sat w0 w L) : Sat w0 w (Row d e (.slice none 0 0) ([] : List α) :: L) := ⟨h.below, fun _ => False, Kd.R_nil d e w _ _, fun _ hk => hk.elim, h.seps.mono (fun _ hk => ⟨hk, fun h => h⟩)⟩
theorem Sat.row (h : Sat w0 w (Row d e v xs :: L)) : ∃ G : Nat → Prop, d.R e w w0.heap.size G v xs ∧ (∀ k, G k → w0.heap.size ≤ k ∧ k < w.heap.size) := h.get
theorem Sat.rowSlice (h : Sat w0 w (Row d e v xs :: L)) : ∃ A c, v = .slice A xs.length c ∧ xs.length ≤ c ∧ d.C w A xs.length xs := by
  obtain ⟨G, h1, _⟩ := h.get
  exact Kd.R_reads h1
theorem Sat.rowQ (h : Sat w0 w (Row d e v xs :: L)) : Sat w0 w (RowQ d e v xs :: L) := h.imp (fun _ hg => Kd.Q_of_R hg)
theorem Sat.grown (h : Sat w0 w (Row d e v xs :: L)) {v1 : Value} {ys : List α} (h1 : ∀ G : Nat → Prop, d.R e w w0.heap.size G v xs → (∀ k, G k → w0.heap.size ≤ k ∧ k < w.heap.size) → d.R e w' w0.heap.size (fun k => G k ∨ w.heap.size ≤ k) v1 ys) (hb : Below w0.heap.size w0 w') (hg : w.grownBy w' v.ownBlock) : Sat w0 w' (Row d e v1 ys :: L) :=
  h.turn (fun G hG hGB => ⟨fun k => (G k ∨ w.heap.size ≤ k) ∧ k < w'.heap.size, Kd.R_mono (Kd.R_bound (h1 G hG hGB)) (fun k hk => ⟨hk.1, hk.2.2.1⟩), hb, hg.size, fun k hk hn => hg.block k hk (fun e => hn (hG.1 k e.symm)), fun _ hk => hk⟩)
theorem Sat.made (h : Sat w0 w L) (hb : Below w.heap.size w w') (h1 : d.R e w' w.heap.size (fun _ => True) v xs) : Sat w0 w' (Row d e v xs :: L) :=
  h.push hb (G' := fun k => w.heap.size ≤ k ∧ k < w'.heap.size) (Kd.R_lower (Kd.R_mono (Kd.R_bound h1) (fun _ hk => ⟨hk.2.1, hk.2.2.1⟩)) h.size) (fun _ hk => hk)
end
section
variable {α : Type} {d : Kd α} {e : Nat} {v v1 : Value} {xs ys : List α} {w0 w w' : World} {L : List Asn}
theorem Sat.grew {G : Nat → Prop} (hb0 : Below w0.heap.size w0 w) (hG : ∀ k, G k → w0.heap.size ≤ k ∧ k < w.heap.size) (h3 : Seps w0.heap.size w L (fun k => (w0.heap.size ≤ k ∧ k < w.heap.size) ∧ ¬ G k))
    (hR : d.R e w' w0.heap.size (fun k => G k ∨ w.heap.size ≤ k) v1 ys) (hb : Below w0.heap.size w0 w') {row : Option Nat} (hg : w.grownBy w' row) (hrow : ∀ k, row = some k → G k) : Sat w0 w' (Row d e v1 ys :: L) := by
  refine ⟨hb, fun k => (G k ∨ w.heap.size ≤ k) ∧ k < w'.heap.size, Kd.R_mono (Kd.R_bound hR) (fun k hk => ⟨hk.1, hk.2.2.1⟩), fun k hk => ⟨?_, hk.2⟩, (h3.loc (fun k hk => hg.block k hk.1.2 (fun e => hk.2 (hrow k e.symm)))).mono (fun k hk => ⟨⟨hk.1.1, Nat.lt_of_lt_of_le hk.1.2 hg.size⟩, fun hk' => ?_⟩)⟩
  · rcases hk.1 with h | h
    · exact (hG k h).1
    · exact Nat.le_trans hb0.size h
  · rcases hk'.1 with h | h
    · exact hk.2 h
    · have := hk.1.2
      omega
theorem Sat.rowBlock (h : Sat w0 w (Row d e v xs :: L)) (hn : 0 < xs.length) : ∃ gb cap, v = .slice (some ⟨gb, 0, none⟩) xs.length cap ∧ w0.heap.size ≤ gb ∧ gb < w.heap.size := by
  obtain ⟨G, h1, hG⟩ := h.get
  obtain ⟨inner, ho⟩ := Kd.R_own h1
  obtain ⟨g, cap, rfl, hb, hl⟩ := ho.form hn
  exact ⟨g, cap, rfl, hb, hl⟩
theorem Sat.apart {g gb n c : Nat} {cs : Array Value} {t : TypeId} (h : Sat w0 w (Blk g cs t :: Row d e (.slice (some ⟨gb, 0, none⟩) n c) xs :: L)) : g ≠ gb := by
  obtain ⟨G, h1, h2, G', h3, h4, h5⟩ := h.seps
  rintro rfl
  exact (h4 g (h3.1 g rfl)).2 h1.1
end
section
variable {enc : Value → Value} {k : IntKind} {e gb cap : Nat} {xs : List Int} {w0 w : World} {L : List Asn}
theorem Sat.rowCell (h : Sat w0 w (Row (Kd.int k) e (.slice (some ⟨gb, 0, none⟩) xs.length cap) xs :: L)) (i : Nat) (hi : i < xs.length) : w.cell? ⟨gb, i, none⟩ = some (.int k (xs.getD i 0)) ∧ w.frozen? ⟨gb, i, none⟩ = false := by
  obtain ⟨G, h1, hG⟩ := h.get
  have h2 := Kd.R_cell (0 : Int) h1 (i : Int) (by omega) (by omega)
  simpa [rdOf] using h2
theorem Sat.rowPut (h : Sat w0 w (Row (Kd.int k) e (.slice (some ⟨gb, 0, none⟩) xs.length cap) xs :: L)) (i : Nat) (x : Int) : Sat w0 (w.setCell ⟨gb, i, none⟩ (.int k x)) (Row (Kd.int k) e (.slice (some ⟨gb, 0, none⟩) xs.length cap) (xs.set i x) :: L) := by
  have hb := h.below
  refine h.turn (fun G hG hGB => ?_)
  have h2 := (Kd.R_put hG (i : Int) x).1
  rw [Int.toNat_natCast] at h2
  have hg := hG.1 gb rfl
  have hgb := hGB gb hg
  exact ⟨G, h2, hb.setCell (p := ⟨gb, i, none⟩) hgb.1 _, by simp [World.setCell], fun j _ hn => Below.heap_setCell w ⟨gb, i, none⟩ _ j (fun e => hn (by rw [e]; exact hg)), fun j hj => ⟨.inl hj, by simpa [World.setCell] using (hGB j hj).2⟩⟩
end
section
variable {P : Program} {ops : Array Oper} {rest : List Oper} {o : Oper} {a : Act} {Q : Exit → Act → World → Prop} {α : Type}
theorem Sat.append (d : Kd α) {w0 W : World} {L : List Asn} (hgd : o.guard = none) (s x : Operand) (t e : TypeId) (z : Value) (bytes : Nat)
    (ho : o.op = .call { callee := .builtin .append, args := #[s, x], argTypes := #[t, t] })
    (ht : P.underlying t = some (.slice e)) (hinfo : (P.info? e).map (fun i => (i.zero, i.size, i.bytes)) = some (some z, d.sz, bytes)) (hz : z.cells.size = d.sz) (hs0 : 0 < d.sz) (hb0 : 0 < bytes)
    (v : Value) (xs : List α) (p : α) (cs : List Value) (hs : a.eval s = v) (hx : a.eval x = .slice (some ⟨W.heap.size, 0, none⟩) 1 1) (hp : d.M W w0.heap.size (fun _ => False) p cs)
    (HS : Sat w0 W (Row d e v xs :: L)) (hl : (xs.length + 1) * bytes ≤ 140737488355328)
    (h : ∀ v1 w1, Sat w0 w1 (Row d e v1 (xs ++ [p]) :: L) → W.heap.size ≤ w1.heap.size → wpList P ops Q rest (a.put o.dst v1) w1) :
    wpList P ops Q (o :: rest) a (W.alloc (.cells cs.toArray e)) := by
  obtain ⟨G, h1, h2, h3⟩ := HS.seps
  refine Kd.R_append d w0.heap.size hgd s x t e z bytes ho ht hinfo hz hs0 hb0 v xs p cs (fun k => G k ∨ W.heap.size ≤ k) (fun _ => False) hs hx hp (fun _ hk => hk.elim) (fun _ hk => .inr hk)
    (Kd.R_mono h1 (fun _ hk => .inl hk)) HS.below HS.size hl ?_
  intro v1 w1 hR hB hg _
  exact h v1 w1 (Sat.grew HS.below h2 h3 hR hB hg (fun k hk => h1.1 k hk)) hg.size
theorem Sat.appendInt {w0 W : World} {L : List Asn} (hgd : o.guard = none) (s x : Operand) (t e : TypeId) (k : IntKind) (bytes : Nat)
    (ho : o.op = .call { callee := .builtin .append, args := #[s, x], argTypes := #[t, t] })
    (ht : P.underlying t = some (.slice e)) (hinfo : (P.info? e).map (fun i => (i.zero, i.size, i.bytes)) = some (some (.int k 0), 1, bytes)) (hb0 : 0 < bytes)
    (v : Value) (xs : List Int) (p : Int) (hs : a.eval s = v) (hx : a.eval x = .slice (some ⟨W.heap.size, 0, none⟩) 1 1)
    (HS : Sat w0 W (Row (Kd.int k) e v xs :: L)) (hl : (xs.length + 1) * bytes ≤ 140737488355328)
    (h : ∀ v1 w1, Sat w0 w1 (Row (Kd.int k) e v1 (xs ++ [p]) :: L) → W.heap.size ≤ w1.heap.size → wpList P ops Q rest (a.put o.dst v1) w1) :
    wpList P ops Q (o :: rest) a (W.alloc (.cells #[.int k p] e)) :=
  Sat.append (Kd.int k) hgd s x t e (.int k 0) bytes ho ht hinfo rfl (Nat.zero_lt_one) hb0 v xs p [.int k p] hs hx rfl HS hl h
end
section
variable {α β : Type} {d : Kd α} {d' : Kd β} {e e' : Nat} {v : Value} {xs : List α} {w0 w : World} {L : List Asn}
theorem Sat.toString {P : Program} {src dst t : TypeId} {xs : List Int} (hs : P.underlying src = some (.slice t)) (he : P.underlying t = some (.int .u8)) (hd : P.underlying dst = some .string) (h : Sat w0 w (Row (Kd.int .u8) e v xs :: L)) :
    (convert src dst v).run P w = .ok (.string (strOfNums xs)) w := by
  obtain ⟨G, h1, _⟩ := h.get
  exact own_string hs he hd (Kd.own_of_R h1)
end
theorem Sat.emptyRow {α : Type} {w0 w : World} {L : List Asn} (d : Kd α) (e : Nat) (h : Sat w0 w L) : Sat w0 (w.alloc (.cells #[] e)) (Row d e (.slice (some ⟨w.heap.size, 0, none⟩) 0 0) ([] : List α) :: L) := by
  refine h.push (below_alloc (Below.refl _ _) _) (G' := fun k => k = w.heap.size) ⟨fun k hk => ?_, [], ?_, Reps.none _ _⟩ (fun k hk => by subst hk; simp)
  · have : w.heap.size = k := by simpa [Value.ownBlock] using hk
    exact this.symm
  · simpa using World.ownsRow_lit (base := w0.heap.size) (e := e) (size := d.sz) w #[] 0 h.size (by simp [maxLen]) (by simp)
end Go.Proofs.YtmnlbedgkjnodaaDoor.Sl
