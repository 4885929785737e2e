/- Plain lemmas: the document's check is the program's; how long a list's bytes are. The law TszMost.
   What the calls of bits.Reader come to: a reader holds bytes of its own, and where it stands among their bits. -/
import Derived.Test.YtmnlbedgkjnodaaDoorZTszBack9
import Derived.Test.YtmnlbedgkjnodaaDoorZTszBack10
import Derived.Test.YtmnlbedgkjnodaaDoorZTszBack11
import Derived.Test.YtmnlbedgkjnodaaDoorZTszBack0
import Derived.Test.YtmnlbedgkjnodaaDoorZTszBack1
import Derived.Test.YtmnlbedgkjnodaaDoorZTszBack5
import Derived.Test.YtmnlbedgkjnodaaDoorZTszBack6
import Derived.Test.YtmnlbedgkjnodaaDoorZTszBack3
import Derived.StillTailTactics
import Derived.WalkSpells
import Derived.Outline
import Derived.Laws.Bits64
namespace Go.Proofs.YtmnlbedgkjnodaaDoor.TeR
open Go.RowKit Go.Proofs.YtmnlbedgkjnodaaDoorW.PrintWords Go.Proofs.YtmnlbedgkjnodaaDoorW.PrintLast Go.Proofs.YtmnlbedgkjnodaaDoorW.PrintMore Go.Proofs.YtmnlbedgkjnodaaDoor.QB Go.Proofs.YtmnlbedgkjnodaaDoor.Bt Go.Proofs.YtmnlbedgkjnodaaDoor.Uv Go.Proofs.YtmnlbedgkjnodaaDoor.TzP Go.Proofs.YtmnlbedgkjnodaaDoor.TeP Go.Proofs.YtmnlbedgkjnodaaDoor.TeW
set_option linter.unusedVariables false
set_option linter.unusedSimpArgs false

def prevT (l : List Pt) (i : Nat) : Int := if i = 0 then -1 else (l.getD (i - 1) zp).f0
theorem ref_check_l0 (l : List Pt) (hl : l.length ≤ 1000000) : ∀ (d i k : Nat), i + d = l.length → 2 * d < k → thermographref05_Check.l0 k l (i : Int) = some (chk (prevT l i) (l.drop i)) := by
  intro d
  induction d with
  | zero =>
    intro i k hi hk
    obtain ⟨k, rfl⟩ : ∃ m, k = m + 1 := ⟨k - 1, by omega⟩
    simp only [thermographref05_Check.l0]
    rw [if_neg (by omega), List.drop_eq_nil_of_le (by omega)]
    rfl
  | succ d ih =>
    intro i k hi hk
    obtain ⟨k, rfl⟩ : ∃ m, k = m + 2 := ⟨k - 2, by omega⟩
    have hlt : i < l.length := by omega
    simp only [thermographref05_Check.l0]
    rw [if_pos (by omega), if_pos (by omega), rdT, getD_at hlt, List.drop_eq_getElem_cons hlt]
    unfold chk
    have hw : wrap64 ((i : Int) + 1) = ((i + 1 : Nat) : Int) := by unfold wrap64; omega
    have hn : prevT l (i + 1) = l[i].f0 := by
      unfold prevT
      rw [if_neg (by omega), Nat.add_sub_cancel, getD_at hlt]
    by_cases h1 : l[i].f0 < 0
    · rw [if_pos h1, if_pos (.inl h1)]
      simp only [thermographref05_Check.j1]
      rfl
    · rw [if_neg h1]
      by_cases h2 : 1099511627776 < l[i].f0
      · rw [if_pos (.inr h2)]
        simp only [thermographref05_Check.j1]
        rw [if_pos (decide_eq_true h2)]
      · rw [if_neg (by omega)]
        simp only [thermographref05_Check.j1]
        rw [if_neg (by simpa using h2)]
        have hih := ih (i + 1) k (by omega) (by omega)
        rw [hn] at hih
        rcases Nat.eq_zero_or_pos i with h0 | h0
        · subst h0
          rw [if_neg (by omega), hw, hih, if_neg (by unfold prevT; rw [if_pos rfl]; omega)]
        · have hm : wrap64 ((i : Int) - 1) = ((i - 1 : Nat) : Int) := by unfold wrap64; omega
          have hp : prevT l i = (l.getD (i - 1) zp).f0 := by unfold prevT; rw [if_neg (by omega)]
          rw [if_pos (by omega), if_pos (by omega), if_pos (by omega), hm, if_pos (by omega), if_pos (by omega), rdT, rdT, getD_at hlt, hp]
          by_cases h3 : l[i].f0 ≤ (l.getD (i - 1) zp).f0
          · rw [if_pos h3, if_pos h3]
          · rw [if_neg h3, if_neg h3, hw]
            exact hih
theorem ref_check_f {l : List Pt} (hl : l.length ≤ 1000000) {k : Nat} (hk : 2 * l.length < k) : thermographref05_Check.f k l = some (checkF l) := by
  unfold thermographref05_Check.f checkF
  by_cases h : 512 < l.length
  · rw [if_pos (by omega), if_pos h]
  · rw [if_neg (by omega), if_neg h]
    exact ref_check_l0 l hl l.length 0 k (by omega) hk
theorem encT_snd (l : List Pt) : (encT l).2 = checkF l := by
  unfold encT
  by_cases h : checkF l = 0
  · rw [if_pos h, h]
  · rw [if_neg h]
theorem encT_ok {l : List Pt} (h : checkF l = 0) : encT l = (encB l, 0) := by unfold encT; rw [if_pos h]
theorem encT_bad {l : List Pt} (h : checkF l ≠ 0) : encT l = ([], checkF l) := by unfold encT; rw [if_neg h]
/-- How many bits. -/
theorem goB_len (l : List Pt) : ∀ j, 192 + 3 * j ≤ (goB l (j + 1)).1.length ∧ (goB l (j + 1)).1.length ≤ 192 + 222 * j
  | 0 => by rw [goB_one]; simp [first_length]
  | j + 1 => by
    have h1 := goB_len l j
    have h2 := step_length (l.getD j zp) (l.getD (j + 1) zp) (goB l (j + 1)).2
    rw [goB_succ]
    simp only [List.length_append]
    omega
theorem bitsT_len {l : List Pt} (h : 0 < l.length) : 192 + 3 * (l.length - 1) ≤ (bitsT l).length ∧ (bitsT l).length ≤ 192 + 222 * (l.length - 1) := by
  have := goB_len l (l.length - 1)
  unfold bitsT
  rwa [show l.length - 1 + 1 = l.length from by omega] at this
theorem bitsT_nil : bitsT [] = [] := rfl
theorem encB_len (l : List Pt) (hn : l.length ≤ 512) : 1 ≤ (encB l).length ∧ (encB l).length ≤ 26 + 28 * (l.length - 1) := by
  have h1 := uv_length_le l.length 2 (by omega) (by omega)
  have h2 := uv_pos l.length
  unfold encB
  rw [List.length_append, pk_length]
  rcases Nat.eq_zero_or_pos l.length with h | h
  · have e : l = [] := List.eq_nil_of_length_eq_zero h
    subst e
    have h3 : (uv 0).length ≤ 2 := uv_length_le 0 2 (by omega) (by omega)
    have h4 := uv_pos 0
    show 1 ≤ (uv 0).length + (0 + 7) / 8 ∧ (uv 0).length + (0 + 7) / 8 ≤ 26 + 28 * (0 - 1)
    omega
  · have := bitsT_len h
    omega
/-- The law TszMost. -/
theorem TszMost_f {l : List Pt} (hok : OkL l) : thermographlaw05_TszMost.f 10000 l = some true := by
  unfold thermographlaw05_TszMost.f
  by_cases hb : (l.length : Int) > 4096
  · rw [if_pos hb]
  rw [if_neg hb, tsz_Encode.f_eq (by omega) hok]
  simp only [Option.bind_some]
  rw [ref_check_f (by omega) (by omega)]
  simp only [Option.bind_some]
  rw [if_pos (encT_snd l), encT_snd]
  by_cases hk : checkF l = 0
  · obtain ⟨hn, _, _⟩ := checkF_zero hk
    obtain ⟨h1, h2⟩ := encB_len l hn
    rw [if_pos hk, encT_ok hk]
    have hm : mx 0 (wrap64 ((l.length : Int) - 1)) = ((l.length - 1 : Nat) : Int) := by unfold mx wrap64; split <;> omega
    rw [hm, show wrap64 (28 * ((l.length - 1 : Nat) : Int)) = 28 * ((l.length - 1 : Nat) : Int) from by unfold wrap64; omega, show wrap64 (26 + 28 * ((l.length - 1 : Nat) : Int)) = 26 + 28 * ((l.length - 1 : Nat) : Int) from by unfold wrap64; omega]
    simp only
    rw [if_pos (by omega)]
    simp only [Option.some.injEq, decide_eq_true_eq]
    omega
  · rw [if_neg hk, encT_bad hk]
    rfl
end Go.Proofs.YtmnlbedgkjnodaaDoor.TeR
namespace Go.Proofs.YtmnlbedgkjnodaaDoor.RdW
open Go.RowKit Go.Proofs.YtmnlbedgkjnodaaDoorW.PrintWords Go.Proofs.YtmnlbedgkjnodaaDoorW.PrintLast Go.Proofs.YtmnlbedgkjnodaaDoorW.PrintMore Go.Proofs.YtmnlbedgkjnodaaDoor.QB Go.Proofs.YtmnlbedgkjnodaaDoor.Sl Go.Proofs.YtmnlbedgkjnodaaDoor.Bt Go.Proofs.YtmnlbedgkjnodaaDoor.WrW
attribute [local go_sem] max2_int min2_int max_two min_two
set_option linter.unusedVariables false
set_option linter.unusedSimpArgs false

/-- A reader at block g over the bytes b, at the bit p. -/
def Rd (g : Nat) (b : List Int) (p : Nat) : Asn := Ex fun v : Value => All [Blk g #[v, .int .i64 p] 94, Row (Kd.int .u8) 5 v b]

theorem NewReader_calls (w0 w : World) (L : List Asn) (A : Option Addr) (c : Nat) (b : List Int) (hC : Kd.C (Kd.int .u8) w A b.length b) (hc : b.length ≤ c) (hl : b.length < 140737488355328) (h : Sat w0 w L) :
    Calls Tryd.prog 36 #[.slice A b.length c] w fun e w' => ∃ g, e = .returned (.pointer (some ⟨g, 0, none⟩)) ∧ Sat w0 w' (Rd g b 0 :: L) := by
  have HC := Aside0.mk hC
  have HS := Aside0.mk h
  clear h hC
  go_enter Tryd.func36, Tryd.ntmps36
  go_wp2_with (first | (go_at_call 49; (with_reducible refine (slices_Clone_byte_byte.calls A c b b _ HC.out hc (UvP.clone_f hl)).mono ?_); rintro e w1 ⟨v0, rfl, hr, hb⟩; have hs1 := HS.out.made hb hr; obtain ⟨A1, c1, rfl, _, _⟩ := hs1.rowSlice; have HS1 := Aside0.mk hs1; clear hs1 hr hb))
  go_ret
  refine ⟨_, rfl, Sat.any (.slice A1 b.length c1) (Sat.closed ?_)⟩
  exact HS1.out.newBlk #[.slice A1 b.length c1, .int .i64 0] 94

theorem Left_calls (w0 w : World) (L : List Asn) (g : Nat) (b : List Int) (p : Nat) (hb : b.length < 140737488355328) (hp : p ≤ 8 * b.length) (h : Sat w0 w (Rd g b p :: L)) :
    Calls Tryd.prog 61 #[.pointer (some ⟨g, 0, none⟩)] w fun e w' => e = .returned (.int .i64 ((8 * b.length - p : Nat) : Int)) ∧ Drawn0 w w' := by
  obtain ⟨v, h1⟩ := h.some_
  have h2 := h1.opened
  obtain ⟨A, c, rfl, hcap, _⟩ := (h2.nth 1 rfl).rowSlice
  have hc0 := h2.cell 0 (v := .slice A b.length c) rfl
  have hc1 := h2.cell 1 (v := .int .i64 p) rfl
  have e1 : IntKind.i64.wrap (8 * (b.length : Int)) = ((8 * b.length : Nat) : Int) := by rw [IntKind.wrap_i64]; omega
  have e2 : IntKind.i64.wrap (((8 * b.length : Nat) : Int) - (p : Int)) = ((8 * b.length - p : Nat) : Int) := by rw [IntKind.wrap_i64]; omega
  have e3 : IntKind.i64.wrap (8 * (b.length : Int) - (p : Int)) = ((8 * b.length - p : Nat) : Int) := by rw [IntKind.wrap_i64]; omega
  clear h h1 h2 hp
  go_enter Tryd.func61, Tryd.ntmps61
  go_wp2
  go_quiet (fail)
  go_wp2
  go_ret
  exact ⟨by first | rfl | (simp; omega), by first | exact ⟨⟨_, rfl⟩⟩⟩

/-- c bits from p on, as a number. -/
def getN (b : List Int) (p c : Nat) : Nat := num (((unpk b).drop p).take c)
theorem getN_lt (b : List Int) (p c : Nat) (hc : c ≤ 64) : getN b p c < 2 ^ c := by
  have h := num_lt ((unpk_isBits b).drop p |>.take c)
  refine Nat.lt_of_lt_of_le h (Nat.pow_le_pow_right (by omega) ?_)
  rw [List.length_take]
  omega
theorem getN_succ (b : List Int) (p i : Nat) (h : p + i < 8 * b.length) : getN b p (i + 1) = getN b p i * 2 + (b.getD ((p + i) / 8) 0).toNat / 2 ^ (7 - (p + i) % 8) % 2 := by
  have hl : i < ((unpk b).drop p).length := by rw [List.length_drop, unpk_length]; omega
  unfold getN
  rw [List.take_succ_eq_append_getElem hl, num_snoc]
  congr 1
  have h2 := unpk_get b (p + i) h
  rw [List.getD_eq_getElem?_getD, List.getElem?_eq_getElem (by rw [unpk_length]; exact h)] at h2
  rw [List.getElem_drop]
  simp only [Option.getD_some] at h2
  rw [h2]
  rfl
theorem get_value (V x s : Nat) (hV : V < 9223372036854775808) (hx : x < 256) (hs : s ≤ 7) :
    Go.bits .or .u64 ((V : Int) * 2) (IntKind.u64.wrap (Go.bits .and .u8 ((x : Int) / 2 ^ s) 1)) = ((V * 2 + x / 2 ^ s % 2 : Nat) : Int) := by
  have e1 : Go.bits .and .u8 ((x : Int) / 2 ^ s) 1 = ((x / 2 ^ s % 2 : Nat) : Int) := by
    have h := u8_and_nat (x / 2 ^ s) 1 (Nat.lt_of_le_of_lt (Nat.div_le_self _ _) hx) (by omega)
    rw [nat_mask1, Int.natCast_ediv, Int.natCast_pow] at h
    exact h
  have e2 : (V : Int) * 2 = ((V * 2 : Nat) : Int) := by omega
  have e3 : IntKind.u64.wrap ((x / 2 ^ s % 2 : Nat) : Int) = ((x / 2 ^ s % 2 : Nat) : Int) := by rw [IntKind.wrap_u64]; omega
  rw [e1, e2, e3, u64_or_nat _ _ (by omega) (by omega)]
  congr 1
  exact nat_join 1 _ _ (by omega) (by omega)

set_option maxHeartbeats 2000000 in
set_option maxRecDepth 100000 in
theorem Get_ok (w0 w : World) (L : List Asn) (g : Nat) (b : List Int) (p : Nat) (n : Int) (hb : b.length ≤ 1099511627776) (hby : ∀ x ∈ b, 0 ≤ x ∧ x < 256) (hp : p ≤ 8 * b.length) (hle : cutN n ≤ 8 * b.length - p) (h : Sat w0 w (Rd g b p :: L)) :
    Calls Tryd.prog 59 #[.pointer (some ⟨g, 0, none⟩), .int .i64 n] w fun e w' => e = .returned (.tuple #[.int .u64 ((getN b p (cutN n) : Nat) : Int), .bool true]) ∧ Sat w0 w' (Rd g b (p + cutN n) :: L) := by
  have hc64 : cutN n ≤ 64 := by unfold cutN; omega
  have HS := Aside0.mk h
  have HY := Aside0.mk hby
  clear h hby
  have hd : decide (((8 * b.length - p : Nat) : Int) < ((cutN n : Nat) : Int)) = false := by simp; omega
  have hd' : decide (8 * b.length - p < cutN n) = false := by simp; omega
  have HLE := Aside0.mk hle
  clear hle
  go_enter Tryd.func59, Tryd.ntmps59
  go_wp2_with (first | (go_at_call 44; (with_reducible refine (bits_cut.calls n _ _ (cut_f n)).mono ?_); rintro e w1 ⟨rfl, hb1⟩; have HS1 := Aside0.mk (HS.out.step hb1); clear hb1) | (go_at_call 61; (with_reducible refine (Left_calls w0 w1 L g b p (by omega) hp HS1.out).mono ?_); rintro e w2 ⟨rfl, ⟨⟨m, rfl⟩⟩⟩; have HS2 := Aside0.mk (HS1.out.drewN m)))
  go_loopw [6, 14] (fun v6 v14 wr => ∃ i : Nat, i ≤ cutN n ∧ v6 = .int .u64 (getN b p i : Nat) ∧ v14 = .int .i64 i ∧ Aside0 (Sat w0 wr (Rd g b (p + i) :: L))) (fun _ v14 _ => cutN n - (intOf v14).toNat)
  case atStart => exact ⟨0, Nat.zero_le _, by simp [getN, num], rfl, HS2⟩
  case round =>
    obtain ⟨i, hi, rfl, rfl, HR⟩ := hrel
    clear HS HS1 HS2
    by_cases hlt : i < cutN n
    · have hle := HLE.out
      have hlti : decide ((i : Int) < ((cutN n : Nat) : Int)) = true := by simp; omega
      have hltn : decide (i < cutN n) = true := by simp; omega
      obtain ⟨v, h1⟩ := HR.out.some_
      have h2 := h1.opened
      obtain ⟨gb, cap, rfl, _, _⟩ := (h2.nth 1 rfl).rowBlock (by omega)
      obtain ⟨q, hq⟩ : ∃ q, p + i = q := ⟨_, rfl⟩
      rw [hq] at h2
      have hq8 : q < 8 * b.length := by omega
      have hj : q / 8 < b.length := by omega
      have hc0 := h2.cell 0 (v := .slice (some ⟨gb, 0, none⟩) b.length cap) rfl
      have hc1 := h2.cell 1 (v := .int .i64 q) rfl
      have hf1 := h2.free 1
      obtain ⟨hx, _⟩ := (show Sat w0 _ (Row (Kd.int .u8) 5 (.slice (some ⟨gb, 0, none⟩) b.length cap) b :: _) from h2.nth 1 rfl).rowCell (q / 8) hj
      have hxr := HY.out _ (List.getElem_mem hj)
      obtain ⟨x, hxe, hxl⟩ : ∃ x : Nat, b.getD (q / 8) 0 = (x : Int) ∧ x < 256 := by
        rw [List.getD_eq_getElem?_getD, List.getElem?_eq_getElem hj]
        exact ⟨b[q / 8].toNat, by simp; omega, by omega⟩
      rw [hxe] at hx
      have HG := Aside0.mk (getN_succ b p i (by omega))
      have HX := Aside0.mk hxe
      have HQ := Aside0.mk hq
      have HS := Aside0.mk h2
      have hgl := getN_lt b p i (by omega)
      have hgl2 : getN b p i < 9223372036854775808 := Nat.lt_of_lt_of_le hgl (Nat.le_trans (Nat.pow_le_pow_right (by omega) (show i ≤ 63 by omega)) (by omega))
      clear HR h1 h2 hxr hxe hq hle hgl
      obtain ⟨j, hje⟩ : ∃ j, q / 8 = j := ⟨_, rfl⟩
      obtain ⟨s, hse⟩ : ∃ s, 7 - q % 8 = s := ⟨_, rfl⟩
      obtain ⟨r, hre⟩ : ∃ r, q % 8 = r := ⟨_, rfl⟩
      have e1 : IntKind.i64.wrap ((q : Int).tdiv 8) = (j : Int) := by rw [Int.tdiv_eq_ediv_of_nonneg (by omega), IntKind.wrap_i64]; omega
      have e1' : (q : Int) / 8 = (j : Int) := by omega
      have e1'' : IntKind.i64.wrap ((q : Int) / 8) = (j : Int) := by rw [IntKind.wrap_i64]; omega
      have e2 : (q : Int).tmod 8 = (r : Int) := by rw [Int.tmod_eq_emod_of_nonneg (by omega)]; omega
      have e2' : (q : Int) % 8 = (r : Int) := by omega
      have e3 : IntKind.i64.wrap (7 - (r : Int)) = (s : Int) := by rw [IntKind.wrap_i64]; omega
      have e4 : IntKind.u64.wrap (s : Int) = (s : Int) := by rw [IntKind.wrap_u64]; omega
      have hs7 : s ≤ 7 := by omega
      have hj0 : (0 : Int) ≤ (j : Int) := by omega
      have hj1 : (j : Int) < (b.length : Int) := by omega
      rw [hje] at hx
      have HJ := Aside0.mk hje
      have HSE := Aside0.mk hse
      clear hje hse hre hj
      go_wp2
      go_quiet (fail)
      go_wp2
      go_roundw
      case measure => simp [intOf]; omega
      case rel =>
        have hG := HG.out
        rw [HQ.out, HX.out, HSE.out, Int.toNat_natCast] at hG
        refine ⟨i + 1, by omega, ?_, by go_num, ⟨?_⟩⟩
        · rw [get_value _ x s hgl2 hxl hs7, hG]
        · refine Sat.any (.slice (some ⟨gb, 0, none⟩) b.length cap) (Sat.closed ?_)
          have h3 := (HS.out.drewN nq).setBlk 1 (.int .i64 ((q : Int) + 1))
          have e : ((q : Int) + 1) = ((p + (i + 1) : Nat) : Int) := by have := HQ.out; omega
          rw [e] at h3 ⊢
          exact h3
    · have hlti : decide ((i : Int) < ((cutN n : Nat) : Int)) = false := by simp; omega
      have hltn : decide (i < cutN n) = false := by simp; omega
      have hie : i = cutN n := by omega
      have HI := Aside0.mk hie
      clear hie hi hlt
      go_wp2
      go_ret2
      rw [← HI.out]
      exact ⟨rfl, HR.out⟩

set_option maxHeartbeats 2000000 in
set_option maxRecDepth 100000 in
theorem Get_none (w0 w : World) (L : List Asn) (g : Nat) (b : List Int) (p : Nat) (n : Int) (hb : b.length ≤ 1099511627776) (hp : p ≤ 8 * b.length) (hle : ¬ cutN n ≤ 8 * b.length - p) (h : Sat w0 w (Rd g b p :: L)) :
    Calls Tryd.prog 59 #[.pointer (some ⟨g, 0, none⟩), .int .i64 n] w fun e w' => e = .returned (.tuple #[.int .u64 0, .bool false]) ∧ Sat w0 w' (Rd g b p :: L) := by
  have HS := Aside0.mk h
  clear h
  have hd : decide (((8 * b.length - p : Nat) : Int) < ((cutN n : Nat) : Int)) = true := by simp; omega
  have hd' : decide (8 * b.length - p < cutN n) = true := by simp; omega
  have HLE := Aside0.mk hle
  clear hle
  go_enter Tryd.func59, Tryd.ntmps59
  go_wp2_with (first | (go_at_call 44; (with_reducible refine (bits_cut.calls n _ _ (cut_f n)).mono ?_); rintro e w1 ⟨rfl, hb1⟩; have HS1 := Aside0.mk (HS.out.step hb1); clear hb1) | (go_at_call 61; (with_reducible refine (Left_calls w0 w1 L g b p (by omega) hp HS1.out).mono ?_); rintro e w2 ⟨rfl, ⟨⟨m, rfl⟩⟩⟩; have HS2 := Aside0.mk (HS1.out.drewN m)))
  go_ret2
  exact ⟨rfl, HS2.out⟩
end Go.Proofs.YtmnlbedgkjnodaaDoor.RdW
