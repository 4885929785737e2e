/- What the calls of bits.Reader come to: a reader holds bytes of its own, and where it stands among their bits. -/
import Derived.Test.YtnhfkiiknmnjgaaSl2
import Derived.Test.YtnhfkiiknmnjgaaBt
import Derived.Test.YtnhfkiiknmnjgaaUvP
import Derived.Test.YtnhfkiiknmnjgaaWrW
import Derived.Test.YtnhfkiiknmnjgaaQBx3
import Derived.Test.YtnhfkiiknmnjgaaQBx1
import Derived.StillTailTactics
import Derived.WalkSpells
import Derived.Outline
import Derived.Laws.Bits64
namespace Go.Proofs.Ytnhfkiiknmnjgaa.RdW
open Go.RowKit Go.Proofs.YtnhfkiiknmnjgaaW.PrintWords Go.Proofs.YtnhfkiiknmnjgaaW.PrintLast Go.Proofs.YtnhfkiiknmnjgaaW.PrintMore Go.Proofs.Ytnhfkiiknmnjgaa.QB Go.Proofs.Ytnhfkiiknmnjgaa.Sl Go.Proofs.Ytnhfkiiknmnjgaa.Bt Go.Proofs.Ytnhfkiiknmnjgaa.WrW
attribute [local go_sem] max2_int min2_int max_two min_two
set_option linter.unusedVariables false
set_option linter.unusedSimpArgs false

/-- A reader at block g over the bytes b, at the bit p. -/
def Rd (g : Nat) (b : List Int) (p : Nat) : Asn := Ex fun v : Value => All [Blk g #[v, .int .i64 p] 59, Row (Kd.int .u8) 5 v b]

theorem NewReader_calls (w0 w : World) (L : List Asn) (A : Option Addr) (c : Nat) (b : List Int) (hC : Kd.C (Kd.int .u8) w A b.length b) (hc : b.length ≤ c) (hl : b.length < 140737488355328) (h : Sat w0 w L) :
    Calls Try.prog 14 #[.slice A b.length c] w fun e w' => ∃ g, e = .returned (.pointer (some ⟨g, 0, none⟩)) ∧ Sat w0 w' (Rd g b 0 :: L) := by
  have HC := Aside0.mk hC
  have HS := Aside0.mk h
  clear h hC
  go_enter Try.func14, Try.ntmps14
  go_wp2_with (first | (go_at_call 30; (with_reducible refine (slices_Clone_byte_byte.calls A c b b _ HC.out hc (UvP.clone_f hl)).mono ?_); rintro e w1 ⟨v0, rfl, hr, hb⟩; have hs1 := HS.out.made hb hr; obtain ⟨A1, c1, rfl, _, _⟩ := hs1.rowSlice; have HS1 := Aside0.mk hs1; clear hs1 hr hb))
  go_ret
  refine ⟨_, rfl, Sat.any (.slice A1 b.length c1) (Sat.closed ?_)⟩
  exact HS1.out.newBlk #[.slice A1 b.length c1, .int .i64 0] 59

theorem Left_calls (w0 w : World) (L : List Asn) (g : Nat) (b : List Int) (p : Nat) (hb : b.length < 140737488355328) (hp : p ≤ 8 * b.length) (h : Sat w0 w (Rd g b p :: L)) :
    Calls Try.prog 18 #[.pointer (some ⟨g, 0, none⟩)] w fun e w' => e = .returned (.int .i64 ((8 * b.length - p : Nat) : Int)) ∧ Drawn0 w w' := by
  obtain ⟨v, h1⟩ := h.some_
  have h2 := h1.opened
  obtain ⟨A, c, rfl, hcap, _⟩ := (h2.nth 1 rfl).rowSlice
  have hc0 := h2.cell 0 (v := .slice A b.length c) rfl
  have hc1 := h2.cell 1 (v := .int .i64 p) rfl
  have e1 : IntKind.i64.wrap (8 * (b.length : Int)) = ((8 * b.length : Nat) : Int) := by rw [IntKind.wrap_i64]; omega
  have e2 : IntKind.i64.wrap (((8 * b.length : Nat) : Int) - (p : Int)) = ((8 * b.length - p : Nat) : Int) := by rw [IntKind.wrap_i64]; omega
  have e3 : IntKind.i64.wrap (8 * (b.length : Int) - (p : Int)) = ((8 * b.length - p : Nat) : Int) := by rw [IntKind.wrap_i64]; omega
  clear h h1 h2 hp
  go_enter Try.func18, Try.ntmps18
  go_wp2
  go_quiet (fail)
  go_wp2
  go_ret
  exact ⟨by first | rfl | (simp; omega), by first | exact ⟨⟨_, rfl⟩⟩⟩

/-- c bits from p on, as a number. -/
def getN (b : List Int) (p c : Nat) : Nat := num (((unpk b).drop p).take c)
theorem getN_lt (b : List Int) (p c : Nat) (hc : c ≤ 64) : getN b p c < 2 ^ c := by
  have h := num_lt ((unpk_isBits b).drop p |>.take c)
  refine Nat.lt_of_lt_of_le h (Nat.pow_le_pow_right (by omega) ?_)
  rw [List.length_take]
  omega
theorem getN_succ (b : List Int) (p i : Nat) (h : p + i < 8 * b.length) : getN b p (i + 1) = getN b p i * 2 + (b.getD ((p + i) / 8) 0).toNat / 2 ^ (7 - (p + i) % 8) % 2 := by
  have hl : i < ((unpk b).drop p).length := by rw [List.length_drop, unpk_length]; omega
  unfold getN
  rw [List.take_succ_eq_append_getElem hl, num_snoc]
  congr 1
  have h2 := unpk_get b (p + i) h
  rw [List.getD_eq_getElem?_getD, List.getElem?_eq_getElem (by rw [unpk_length]; exact h)] at h2
  rw [List.getElem_drop]
  simp only [Option.getD_some] at h2
  rw [h2]
  rfl
theorem get_value (V x s : Nat) (hV : V < 9223372036854775808) (hx : x < 256) (hs : s ≤ 7) :
    Go.bits .or .u64 ((V : Int) * 2) (IntKind.u64.wrap (Go.bits .and .u8 ((x : Int) / 2 ^ s) 1)) = ((V * 2 + x / 2 ^ s % 2 : Nat) : Int) := by
  have e1 : Go.bits .and .u8 ((x : Int) / 2 ^ s) 1 = ((x / 2 ^ s % 2 : Nat) : Int) := by
    have h := u8_and_nat (x / 2 ^ s) 1 (Nat.lt_of_le_of_lt (Nat.div_le_self _ _) hx) (by omega)
    rw [nat_mask1, Int.natCast_ediv, Int.natCast_pow] at h
    exact h
  have e2 : (V : Int) * 2 = ((V * 2 : Nat) : Int) := by omega
  have e3 : IntKind.u64.wrap ((x / 2 ^ s % 2 : Nat) : Int) = ((x / 2 ^ s % 2 : Nat) : Int) := by rw [IntKind.wrap_u64]; omega
  rw [e1, e2, e3, u64_or_nat _ _ (by omega) (by omega)]
  congr 1
  exact nat_join 1 _ _ (by omega) (by omega)

set_option maxHeartbeats 2000000 in
set_option maxRecDepth 100000 in
theorem Get_ok (w0 w : World) (L : List Asn) (g : Nat) (b : List Int) (p : Nat) (n : Int) (hb : b.length ≤ 1099511627776) (hby : ∀ x ∈ b, 0 ≤ x ∧ x < 256) (hp : p ≤ 8 * b.length) (hle : cutN n ≤ 8 * b.length - p) (h : Sat w0 w (Rd g b p :: L)) :
    Calls Try.prog 16 #[.pointer (some ⟨g, 0, none⟩), .int .i64 n] w fun e w' => e = .returned (.tuple #[.int .u64 ((getN b p (cutN n) : Nat) : Int), .bool true]) ∧ Sat w0 w' (Rd g b (p + cutN n) :: L) := by
  have hc64 : cutN n ≤ 64 := by unfold cutN; omega
  have HS := Aside0.mk h
  have HY := Aside0.mk hby
  clear h hby
  have hd : decide (((8 * b.length - p : Nat) : Int) < ((cutN n : Nat) : Int)) = false := by simp; omega
  have hd' : decide (8 * b.length - p < cutN n) = false := by simp; omega
  have HLE := Aside0.mk hle
  clear hle
  go_enter Try.func16, Try.ntmps16
  go_wp2_with (first | (go_at_call 31; (with_reducible refine (bits_cut.calls n _ _ (cut_f n)).mono ?_); rintro e w1 ⟨rfl, hb1⟩; have HS1 := Aside0.mk (HS.out.step hb1); clear hb1) | (go_at_call 18; (with_reducible refine (Left_calls w0 w1 L g b p (by omega) hp HS1.out).mono ?_); rintro e w2 ⟨rfl, ⟨⟨m, rfl⟩⟩⟩; have HS2 := Aside0.mk (HS1.out.drewN m)))
  go_loopw [6, 14] (fun v6 v14 wr => ∃ i : Nat, i ≤ cutN n ∧ v6 = .int .u64 (getN b p i : Nat) ∧ v14 = .int .i64 i ∧ Aside0 (Sat w0 wr (Rd g b (p + i) :: L))) (fun _ v14 _ => cutN n - (intOf v14).toNat)
  case atStart => exact ⟨0, Nat.zero_le _, by simp [getN, num], rfl, HS2⟩
  case round =>
    obtain ⟨i, hi, rfl, rfl, HR⟩ := hrel
    clear HS HS1 HS2
    by_cases hlt : i < cutN n
    · have hle := HLE.out
      have hlti : decide ((i : Int) < ((cutN n : Nat) : Int)) = true := by simp; omega
      have hltn : decide (i < cutN n) = true := by simp; omega
      obtain ⟨v, h1⟩ := HR.out.some_
      have h2 := h1.opened
      obtain ⟨gb, cap, rfl, _, _⟩ := (h2.nth 1 rfl).rowBlock (by omega)
      obtain ⟨q, hq⟩ : ∃ q, p + i = q := ⟨_, rfl⟩
      rw [hq] at h2
      have hq8 : q < 8 * b.length := by omega
      have hj : q / 8 < b.length := by omega
      have hc0 := h2.cell 0 (v := .slice (some ⟨gb, 0, none⟩) b.length cap) rfl
      have hc1 := h2.cell 1 (v := .int .i64 q) rfl
      have hf1 := h2.free 1
      obtain ⟨hx, _⟩ := (show Sat w0 _ (Row (Kd.int .u8) 5 (.slice (some ⟨gb, 0, none⟩) b.length cap) b :: _) from h2.nth 1 rfl).rowCell (q / 8) hj
      have hxr := HY.out _ (List.getElem_mem hj)
      obtain ⟨x, hxe, hxl⟩ : ∃ x : Nat, b.getD (q / 8) 0 = (x : Int) ∧ x < 256 := by
        rw [List.getD_eq_getElem?_getD, List.getElem?_eq_getElem hj]
        exact ⟨b[q / 8].toNat, by simp; omega, by omega⟩
      rw [hxe] at hx
      have HG := Aside0.mk (getN_succ b p i (by omega))
      have HX := Aside0.mk hxe
      have HQ := Aside0.mk hq
      have HS := Aside0.mk h2
      have hgl := getN_lt b p i (by omega)
      have hgl2 : getN b p i < 9223372036854775808 := Nat.lt_of_lt_of_le hgl (Nat.le_trans (Nat.pow_le_pow_right (by omega) (show i ≤ 63 by omega)) (by omega))
      clear HR h1 h2 hxr hxe hq hle hgl
      obtain ⟨j, hje⟩ : ∃ j, q / 8 = j := ⟨_, rfl⟩
      obtain ⟨s, hse⟩ : ∃ s, 7 - q % 8 = s := ⟨_, rfl⟩
      obtain ⟨r, hre⟩ : ∃ r, q % 8 = r := ⟨_, rfl⟩
      have e1 : IntKind.i64.wrap ((q : Int).tdiv 8) = (j : Int) := by rw [Int.tdiv_eq_ediv_of_nonneg (by omega), IntKind.wrap_i64]; omega
      have e1' : (q : Int) / 8 = (j : Int) := by omega
      have e1'' : IntKind.i64.wrap ((q : Int) / 8) = (j : Int) := by rw [IntKind.wrap_i64]; omega
      have e2 : (q : Int).tmod 8 = (r : Int) := by rw [Int.tmod_eq_emod_of_nonneg (by omega)]; omega
      have e2' : (q : Int) % 8 = (r : Int) := by omega
      have e3 : IntKind.i64.wrap (7 - (r : Int)) = (s : Int) := by rw [IntKind.wrap_i64]; omega
      have e4 : IntKind.u64.wrap (s : Int) = (s : Int) := by rw [IntKind.wrap_u64]; omega
      have hs7 : s ≤ 7 := by omega
      have hj0 : (0 : Int) ≤ (j : Int) := by omega
      have hj1 : (j : Int) < (b.length : Int) := by omega
      rw [hje] at hx
      have HJ := Aside0.mk hje
      have HSE := Aside0.mk hse
      clear hje hse hre hj
      go_wp2
      go_quiet (fail)
      go_wp2
      go_roundw
      case measure => simp [intOf]; omega
      case rel =>
        have hG := HG.out
        rw [HQ.out, HX.out, HSE.out, Int.toNat_natCast] at hG
        refine ⟨i + 1, by omega, ?_, by go_num, ⟨?_⟩⟩
        · rw [get_value _ x s hgl2 hxl hs7, hG]
        · refine Sat.any (.slice (some ⟨gb, 0, none⟩) b.length cap) (Sat.closed ?_)
          have h3 := (HS.out.drewN nq).setBlk 1 (.int .i64 ((q : Int) + 1))
          have e : ((q : Int) + 1) = ((p + (i + 1) : Nat) : Int) := by have := HQ.out; omega
          rw [e] at h3 ⊢
          exact h3
    · have hlti : decide ((i : Int) < ((cutN n : Nat) : Int)) = false := by simp; omega
      have hltn : decide (i < cutN n) = false := by simp; omega
      have hie : i = cutN n := by omega
      have HI := Aside0.mk hie
      clear hie hi hlt
      go_wp2
      go_ret2
      rw [← HI.out]
      exact ⟨rfl, HR.out⟩

set_option maxHeartbeats 2000000 in
set_option maxRecDepth 100000 in
theorem Get_none (w0 w : World) (L : List Asn) (g : Nat) (b : List Int) (p : Nat) (n : Int) (hb : b.length ≤ 1099511627776) (hp : p ≤ 8 * b.length) (hle : ¬ cutN n ≤ 8 * b.length - p) (h : Sat w0 w (Rd g b p :: L)) :
    Calls Try.prog 16 #[.pointer (some ⟨g, 0, none⟩), .int .i64 n] w fun e w' => e = .returned (.tuple #[.int .u64 0, .bool false]) ∧ Sat w0 w' (Rd g b p :: L) := by
  have HS := Aside0.mk h
  clear h
  have hd : decide (((8 * b.length - p : Nat) : Int) < ((cutN n : Nat) : Int)) = true := by simp; omega
  have hd' : decide (8 * b.length - p < cutN n) = true := by simp; omega
  have HLE := Aside0.mk hle
  clear hle
  go_enter Try.func16, Try.ntmps16
  go_wp2_with (first | (go_at_call 31; (with_reducible refine (bits_cut.calls n _ _ (cut_f n)).mono ?_); rintro e w1 ⟨rfl, hb1⟩; have HS1 := Aside0.mk (HS.out.step hb1); clear hb1) | (go_at_call 18; (with_reducible refine (Left_calls w0 w1 L g b p (by omega) hp HS1.out).mono ?_); rintro e w2 ⟨rfl, ⟨⟨m, rfl⟩⟩⟩; have HS2 := Aside0.mk (HS1.out.drewN m)))
  go_ret2
  exact ⟨rfl, HS2.out⟩
end Go.Proofs.Ytnhfkiiknmnjgaa.RdW
