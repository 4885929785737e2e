/- What the calls of bits.Writer come to: a writer holds the bits that were put, packed.
   The codec of points in plain words: the bits of a time's change, of a value's, of a list of points. No program in sight. -/
import Derived.Test.YtmnlbedgkjnodaaDoorZTszBack0
import Derived.Test.YtmnlbedgkjnodaaDoorZTszBack1
import Derived.Test.YtmnlbedgkjnodaaDoorZTszBack5
import Derived.Test.YtmnlbedgkjnodaaDoorZTszBack3
import Derived.Deep.RegionHeld3
import Derived.WalkSpells
import Derived.Outline
import Derived.StillTailTactics
import Derived.Laws.Bits64
import Derived.Lib.TrailingZeros
import Derived.Lib.BitFns
namespace Go.Proofs.YtmnlbedgkjnodaaDoor.WrW
open Go.RowKit Go.Proofs.YtmnlbedgkjnodaaDoorW.PrintWords Go.Proofs.YtmnlbedgkjnodaaDoorW.PrintLast Go.Proofs.YtmnlbedgkjnodaaDoorW.PrintMore Go.Proofs.YtmnlbedgkjnodaaDoor.QB Go.Proofs.YtmnlbedgkjnodaaDoor.Sl Go.Proofs.YtmnlbedgkjnodaaDoor.Bt
attribute [local go_sem] max2_int min2_int max_two min_two
set_option linter.unusedVariables false
set_option linter.unusedSimpArgs false

/-- A writer at block g that holds the bits l. -/
def Wr (g : Nat) (l : List Int) : Asn := Ex fun v : Value => All [Blk g #[v, .int .i64 l.length] 82, Row (Kd.int .u8) 5 v (pk l)]

def cutN (n : Int) : Nat := (min n 64).toNat

theorem NewWriter_calls (w0 w : World) (L : List Asn) (h : Sat w0 w L) :
    Calls Tryd.prog 21 #[] w fun e w' => ∃ g, e = .returned (.pointer (some ⟨g, 0, none⟩)) ∧ Sat w0 w' (Wr g [] :: L) := by
  go_enter Tryd.func21, Tryd.ntmps21
  go_wp2
  go_ret
  refine ⟨_, rfl, ?_⟩
  refine Sat.any (.slice none 0 0) (Sat.closed ?_)
  have h1 := (h.newBlk #[.slice none 0 0, .int .i64 0] 82)
  have h2 := h1.nilRow (Kd.int .u8) 5
  rw [pk_nil]
  exact h2.nth 1 rfl

theorem info8 : (Tryd.prog.info? 5).map (fun i => (i.zero, i.size, i.bytes)) = some (some (.int .u8 0), 1, 1) := by kernel_rfl
theorem cut_f (n : Int) : bits_cut.f n = some ((cutN n : Nat) : Int) := by
  unfold bits_cut.f cutN mx mn
  congr 1
  split <;> split <;> omega

/-- The value that is stored: the part is laid below what stands there. -/
theorem put_value (b0 x tk sh : Nat) (hb0 : b0 < 256) (hs : tk + sh ≤ 8) (hlow : b0 % 2 ^ (tk + sh) = 0) :
    Go.bits .or .u8 (b0 : Int) (Go.bits .and .u8 ((x : Int) % 256) ((2 ^ tk - 1) % 256) * 2 ^ sh % 256) = ((b0 + x % 2 ^ tk * 2 ^ sh : Nat) : Int) := by
  have hp : (2 : Nat) ^ tk ≤ 2 ^ 8 := Nat.pow_le_pow_right (by omega) (by omega)
  have hp0 : 0 < (2 : Nat) ^ tk := Nat.pow_pos (by omega)
  have e1 : Go.bits .and .u8 ((x : Int) % 256) ((2 ^ tk - 1) % 256) = ((x % 2 ^ tk : Nat) : Int) := by
    have h := u8_and_nat (x % 256) (2 ^ tk - 1) (by omega) (by omega)
    rw [Nat.and_two_pow_sub_one_eq_mod] at h
    have hc : ((2 ^ tk : Nat) : Int) = (2 : Int) ^ tk := Int.natCast_pow 2 tk
    have e : (((2 ^ tk - 1 : Nat) : Int)) = (2 ^ tk - 1) % 256 := by
      rw [← hc]
      omega
    rw [e, show ((x % 256 : Nat) : Int) = (x : Int) % 256 from by omega] at h
    rw [h]
    congr 1
    rw [show (256 : Nat) = 2 ^ tk * 2 ^ (8 - tk) from by rw [← Nat.pow_add, show tk + (8 - tk) = 8 from by omega], Nat.mod_mul_right_mod]
  rw [e1]
  have hx : x % 2 ^ tk < 2 ^ tk := Nat.mod_lt _ hp0
  have hm : x % 2 ^ tk * 2 ^ sh < 2 ^ (tk + sh) := by rw [Nat.pow_add]; exact Nat.mul_lt_mul_of_pos_right hx (Nat.pow_pos (by omega))
  have hp2 : (2 : Nat) ^ (tk + sh) ≤ 2 ^ 8 := Nat.pow_le_pow_right (by omega) hs
  have e2 : ((x % 2 ^ tk : Nat) : Int) * 2 ^ sh % 256 = ((x % 2 ^ tk * 2 ^ sh : Nat) : Int) := by
    rw [Int.natCast_mul, Int.natCast_pow]
    have : ((x % 2 ^ tk * 2 ^ sh : Nat) : Int) < 256 := by omega
    rw [Int.natCast_mul, Int.natCast_pow] at this
    have h0 : (0 : Int) ≤ ((x % 2 ^ tk * 2 ^ sh : Nat) : Int) := by omega
    rw [Int.natCast_mul, Int.natCast_pow] at h0
    exact Int.emod_eq_of_lt h0 this
  rw [e2, u8_or_nat _ _ hb0 (by omega)]
  congr 1
  exact nat_join (tk + sh) _ _ hlow hm
theorem put_close {w0 W : World} {L : List Asn} {g gb nb cap q tk : Nat} {bs l2 : List Int} {X : Int} (HS : Sat w0 W (Blk g #[.slice (some ⟨gb, 0, none⟩) (nb + 1) cap, .int .i64 q] 82 :: Row (Kd.int .u8) 5 (.slice (some ⟨gb, 0, none⟩) (nb + 1) cap) bs :: L))
    (hnb : bs.length = nb + 1) (hX : bs.set nb X = pk l2) (hq : (q : Int) + tk = l2.length) :
    Sat w0 (((W.setCell ⟨gb, nb, none⟩ (.int .u8 X)).setCell ⟨g, 1, none⟩ (.int .i64 ((q : Int) + tk))).drew) (Wr g l2 :: L) := by
  have h1 : Sat w0 W (Row (Kd.int .u8) 5 (.slice (some ⟨gb, 0, none⟩) bs.length cap) bs :: Blk g #[.slice (some ⟨gb, 0, none⟩) (nb + 1) cap, .int .i64 q] 82 :: L) := by
    rw [hnb]
    exact HS.nth 1 rfl
  have h2 := h1.rowPut nb X
  have h3 : Sat w0 _ (Blk g #[.slice (some ⟨gb, 0, none⟩) (nb + 1) cap, .int .i64 q] 82 :: Row (Kd.int .u8) 5 (.slice (some ⟨gb, 0, none⟩) bs.length cap) (bs.set nb X) :: L) := h2.nth 1 rfl
  have h4 := (h3.setBlk 1 (.int .i64 ((q : Int) + tk))).drew
  refine Sat.any (.slice (some ⟨gb, 0, none⟩) (nb + 1) cap) (Sat.closed ?_)
  rw [hnb, hX, hq] at h4
  rw [← hq] at h4 ⊢
  exact h4
/-- A list of bytes whose last one has noughts below, and what it comes to when bits are laid there. -/
theorem put_room (l' : List Int) (hb : IsBits l') (h : l'.length % 8 ≠ 0) : ∃ nb b0 : Nat, (pk l').length = nb + 1 ∧ (pk l').getD nb 0 = (b0 : Int) ∧ b0 < 256 ∧ b0 % 2 ^ (8 - l'.length % 8) = 0 ∧
    ∀ t : List Int, l'.length % 8 + t.length ≤ 8 → (pk l').set nb ((b0 + num t * 2 ^ (8 - l'.length % 8 - t.length) : Nat) : Int) = pk (l' ++ t) := by
  obtain ⟨t0, h1, h2, h3⟩ := pk_last l' hb h
  have hp : 0 < (pk l').length := by rw [pk_length]; omega
  obtain ⟨nb, hnb⟩ : ∃ nb, (pk l').length = nb + 1 := ⟨(pk l').length - 1, by omega⟩
  rw [hnb, Nat.add_sub_cancel] at h3
  obtain ⟨b0, h4, h5, h6⟩ := byte_low h2 (by omega)
  rw [h1] at h6
  rw [h4] at h3
  refine ⟨nb, b0, hnb, h3, h5, h6, fun t ht => ?_⟩
  rw [pk_into l' h ht, hnb, Nat.add_sub_cancel, h3]
  push_cast
  rfl
theorem put_room0 (l' : List Int) (h : l'.length % 8 = 0) : ∃ nb b0 : Nat, (pk l' ++ [0]).length = nb + 1 ∧ (pk l' ++ [0]).getD nb 0 = (b0 : Int) ∧ b0 < 256 ∧ b0 % 2 ^ (8 - l'.length % 8) = 0 ∧
    ∀ t : List Int, t ≠ [] → l'.length % 8 + t.length ≤ 8 → (pk l' ++ [0]).set nb ((b0 + num t * 2 ^ (8 - l'.length % 8 - t.length) : Nat) : Int) = pk (l' ++ t) := by
  refine ⟨(pk l').length, 0, by simp, ?_, by omega, Nat.zero_mod _, fun t h0 ht => ?_⟩
  · rw [List.getD_eq_getElem?_getD, List.getElem?_append_right (Nat.le_refl _)]
    simp
  · rw [pk_new h0 (by omega) l' h, List.set_append_right _ _ (Nat.le_refl _)]
    simp only [Nat.sub_self, List.set_cons_zero, h, Nat.zero_add, Nat.sub_zero]
    rfl

set_option maxHeartbeats 2000000 in
set_option maxRecDepth 100000 in
theorem Put_calls (w0 w : World) (L : List Asn) (g : Nat) (l : List Int) (v : Nat) (n : Int) (hv : v < 18446744073709551616) (hl : l.length ≤ 1099511627776) (hb : IsBits l) (h : Sat w0 w (Wr g l :: L)) :
    Calls Tryd.prog 22 #[.pointer (some ⟨g, 0, none⟩), .int .u64 v, .int .i64 n] w fun e w' => e = .returned (.tuple #[]) ∧ Sat w0 w' (Wr g (l ++ bitsOf v (cutN n)) :: L) := by
  have hc64 : cutN n ≤ 64 := by unfold cutN; omega
  have HS := Aside0.mk h
  clear h
  go_enter Tryd.func22, Tryd.ntmps22
  go_wp2_with (first | (go_at_call 44; (with_reducible refine (bits_cut.calls n _ _ (cut_f n)).mono ?_); rintro e w1 ⟨rfl, hb1⟩; have HS1 := Aside0.mk (HS.out.step hb1); clear hb1))
  go_loopw [2] (fun vn wr => ∃ m : Nat, m ≤ cutN n ∧ vn = .int .i64 m ∧ Aside0 (Sat w0 wr (Wr g (l ++ bitsOf (v / 2 ^ m) (cutN n - m)) :: L))) (fun vn _ => (intOf vn).toNat)
  case atStart => exact ⟨cutN n, Nat.le_refl _, rfl, ⟨by rw [Nat.sub_self]; simpa [bitsOf] using HS1.out⟩⟩
  case round =>
    obtain ⟨m, hm, rfl, HR⟩ := hrel
    clear HS HS1
    by_cases hm0 : m = 0
    · subst hm0
      go_wp2
      go_end0
      exact ⟨rfl, by simpa using HR.out⟩
    · have hm1 : 0 < m := by omega
      obtain ⟨l', hl'⟩ : ∃ l', l ++ bitsOf (v / 2 ^ m) (cutN n - m) = l' := ⟨_, rfl⟩
      rw [hl'] at HR
      have Hl' := Aside0.mk hl'
      clear hl'
      obtain ⟨q, hq⟩ : ∃ q, l'.length = q := ⟨_, rfl⟩
      have hq1 : q ≤ 1099511627840 := by
        rw [← hq, ← Hl'.out, List.length_append, bitsOf_length]
        omega
      obtain ⟨vb, h1⟩ := HR.out.some_
      have h2 := h1.opened
      rw [hq] at h2
      have Hq := Aside0.mk hq
      clear hq HR h1
      obtain ⟨A, c, rfl, hcap, hC⟩ := (h2.nth 1 rfl).rowSlice
      have hc0 := h2.cell 0 (v := .slice A (pk l').length c) rfl
      have hc1 := h2.cell 1 (v := .int .i64 q) rfl
      have HS := Aside0.mk (show Sat w0 wr (Blk g #[.slice A (pk l').length c, .int .i64 q] 82 :: Row (Kd.int .u8) 5 (.slice A (pk l').length c) (pk l') :: L) from h2)
      clear h2 hC hcap
      obtain ⟨tk, htk⟩ : ∃ tk : Nat, tk = min m (8 - q % 8) := ⟨_, rfl⟩
      have htk1 : 0 < tk := by omega
      have htk2 : tk ≤ m := by omega
      have htk3 : (tk : Int) ≤ 8 - (q : Int) % 8 := by omega
      have htk4 : (if (m : Int) < 8 - (q : Int) % 8 then (m : Int) else 8 - (q : Int) % 8) = (tk : Int) := by split <;> omega
      have Htk := Aside0.mk htk
      clear htk
      by_cases h8 : q % 8 = 0
      · have hd : ((q : Int) % 8 == 0) = true := by rw [beq_iff_eq]; omega
        obtain ⟨nb, b0, hnb, hb0, hb1, hb2, hfin⟩ := put_room0 l' (by rw [Hq.out]; exact h8)
        obtain ⟨bs, hbs⟩ : ∃ bs, pk l' ++ [0] = bs := ⟨_, rfl⟩
        have hpl : (pk l').length + 1 ≤ 140737488355328 := by rw [pk_length, Hq.out]; omega
        have hnq : nb ≤ 1099511627840 := by
          rw [List.length_append, pk_length, Hq.out] at hnb
          simp at hnb
          omega
        rw [hbs] at hnb hb0 hfin
        rw [Hq.out] at hb2 hfin
        have HN := Aside0.mk hnb
        have HB0 := Aside0.mk hb0
        have HF : Aside0 (∀ t : List Int, t ≠ [] → q % 8 + t.length ≤ 8 → bs.set nb ((b0 + num t * 2 ^ (8 - q % 8 - t.length) : Nat) : Int) = pk (l' ++ t)) := ⟨hfin⟩
        have HBs := Aside0.mk hbs
        have HL := Aside0.mk hb2
        clear h8 hnb hb0 hfin hbs hb2
        go_wp2_with (first | (at_builtin; refine Sat.appendInt rfl _ _ 23 5 .u8 1 rfl Tryd.underlying23 info8 (by omega) _ (pk l') 0 rfl rfl (HS.out.nth 1 rfl) (by omega) ?_; intro v1 w2 hs hsz; rw [HBs.out] at hs; obtain ⟨gb, cap, hv1, _, _⟩ := hs.rowBlock (by rw [HN.out]; omega); rw [HN.out] at hv1; subst hv1; have hs1 : Sat w0 w2 (Blk g #[.slice A (pk l').length c, .int .i64 q] 82 :: Row (Kd.int .u8) 5 (.slice (some ⟨gb, 0, none⟩) (nb + 1) cap) bs :: L) := hs.nth 1 rfl; have hc0' := hs1.cell 0 (v := .slice A (pk l').length c) rfl; have hc1' := hs1.cell 1 (v := .int .i64 q) rfl; have hf0' := hs1.free 0; have HS1 : Aside0 (Sat w0 (w2.setCell ⟨g, 0, none⟩ (.slice (some ⟨gb, 0, none⟩) (nb + 1) cap)) (Blk g #[.slice (some ⟨gb, 0, none⟩) (nb + 1) cap, .int .i64 q] 82 :: Row (Kd.int .u8) 5 (.slice (some ⟨gb, 0, none⟩) (nb + 1) cap) bs :: L)) := ⟨hs1.setBlk 0 (.slice (some ⟨gb, 0, none⟩) (nb + 1) cap)⟩; clear hs1 hs hsz))
        clear hd hpl hc0' hc1' hf0' hc0 hc1 HS HBs
        generalize w2.setCell ⟨g, 0, none⟩ (.slice (some ⟨gb, 0, none⟩) (nb + 1) cap) = W at HS1 ⊢
        have hw0 := HS1.out.cell 0 (v := .slice (some ⟨gb, 0, none⟩) (nb + 1) cap) rfl
        have hw1 := HS1.out.cell 1 (v := .int .i64 q) rfl
        have hwf := HS1.out.free 1
        have hne := HS1.out.apart
        obtain ⟨hwe, hwef⟩ := (show Sat w0 W (Row (Kd.int .u8) 5 (.slice (some ⟨gb, 0, none⟩) bs.length cap) bs :: Blk g _ 82 :: L) from by rw [HN.out]; exact HS1.out.nth 1 rfl).rowCell nb (by rw [HN.out]; omega)
        rw [HB0.out] at hwe
        have hi0 : (0 : Int) ≤ (nb : Int) := by omega
        have hi1 : (nb : Int) < (nb : Int) + 1 := by omega
        have e1 : IntKind.i64.wrap (nb : Int) = (nb : Int) := by rw [IntKind.wrap_i64]; omega
        have e2 : IntKind.i64.wrap ((nb : Int) + 1 - 1) = (nb : Int) := by rw [IntKind.wrap_i64]; omega
        obtain ⟨sh, hsh⟩ : ∃ sh : Nat, sh = 8 - q % 8 - tk := ⟨_, rfl⟩
        have hsh8 : sh ≤ 8 := by omega
        have e3 : IntKind.i64.wrap (8 - (q : Int) % 8 - (tk : Int)) = (sh : Int) := by rw [IntKind.wrap_i64]; omega
        have e4 : IntKind.u64.wrap (sh : Int) = (sh : Int) := by rw [IntKind.wrap_u64]; omega
        have Hsh := Aside0.mk hsh
        clear hsh
        go_still_tail 20, (by kernel_rfl)
        change wpList _ _ _ _ _ W.drew
        have hw0' : W.drew.cell? ⟨g, 0, none⟩ = some (.slice (some ⟨gb, 0, none⟩) (nb + 1) cap) := hw0
        go_wp2
        go_roundw
        case measure => simp [intOf]; omega
        case rel =>
          have hsh := Hsh.out
          have hp2 : v / 2 ^ m = v / 2 ^ (m - tk) / 2 ^ tk := by rw [Nat.div_div_eq_div_mul, ← Nat.pow_add, show m - tk + tk = m from by omega]
          have hl2 : l' ++ bitsOf (v / 2 ^ (m - tk)) tk = l ++ bitsOf (v / 2 ^ (m - tk)) (cutN n - (m - tk)) := by
            rw [← Hl'.out, List.append_assoc, hp2, ← bitsOf_split, show cutN n - m + tk = cutN n - (m - tk) from by omega]
          refine ⟨m - tk, by omega, by rw [show ((m : Int) - tk) = ((m - tk : Nat) : Int) from by omega], ⟨?_⟩⟩
          have hval := put_value b0 (v / 2 ^ (m - tk)) tk sh hb1 (by omega) (by rw [show tk + sh = 8 - q % 8 from by omega]; exact HL.out)
          have hfin := HF.out (bitsOf (v / 2 ^ (m - tk)) tk) (by intro e; have := congrArg List.length e; rw [bitsOf_length] at this; simp at this; omega) (by rw [bitsOf_length]; omega)
          rw [num_bitsOf, bitsOf_length, ← hsh, hl2, ← hval] at hfin
          refine put_close HS1.out HN.out ?_ ?_
          · rw [← hfin, show ((v : Int) / 2 ^ (m - tk)) = ((v / 2 ^ (m - tk) : Nat) : Int) from by rw [Int.natCast_ediv, Int.natCast_pow]; rfl]
          · rw [← hl2, List.length_append, bitsOf_length, Hq.out]
            omega
      · have hd : ((q : Int) % 8 == 0) = false := by rw [beq_eq_false_iff_ne]; omega
        have hbl : IsBits l' := by rw [← Hl'.out]; exact hb.append (bitsOf_isBits _ _)
        obtain ⟨nb, b0, hnb, hb0, hb1, hb2, hfin⟩ := put_room l' hbl (by rw [Hq.out]; exact h8)
        obtain ⟨bs, hbs⟩ : ∃ bs, pk l' = bs := ⟨_, rfl⟩
        have hnq : nb ≤ 1099511627840 := by
          rw [pk_length, Hq.out] at hnb
          omega
        rw [hbs] at hnb hb0 hfin HS hc0
        rw [Hq.out] at hb2 hfin
        have HN := Aside0.mk hnb
        have HB0 := Aside0.mk hb0
        have HF : Aside0 (∀ t : List Int, t ≠ [] → q % 8 + t.length ≤ 8 → bs.set nb ((b0 + num t * 2 ^ (8 - q % 8 - t.length) : Nat) : Int) = pk (l' ++ t)) := ⟨fun t _ ht => hfin t ht⟩
        have HL := Aside0.mk hb2
        clear h8 hnb hb0 hfin hb2 hbl
        obtain ⟨gb, cap, hv1, _, _⟩ := (HS.out.nth 1 rfl).rowBlock (by rw [HN.out]; omega)
        rw [hv1] at HS hc0
        rw [HN.out] at HS hc0
        clear hv1 hbs
        have HS1 := HS
        clear HS
        go_wp2
        clear hd hc0 hc1
        rename_i wrx
        generalize hWr : wr = W at HS1 ⊢
        clear hWr
        have hw0 := HS1.out.cell 0 (v := .slice (some ⟨gb, 0, none⟩) (nb + 1) cap) rfl
        have hw1 := HS1.out.cell 1 (v := .int .i64 q) rfl
        have hwf := HS1.out.free 1
        have hne := HS1.out.apart
        obtain ⟨hwe, hwef⟩ := (show Sat w0 W (Row (Kd.int .u8) 5 (.slice (some ⟨gb, 0, none⟩) bs.length cap) bs :: Blk g _ 82 :: L) from by rw [HN.out]; exact HS1.out.nth 1 rfl).rowCell nb (by rw [HN.out]; omega)
        rw [HB0.out] at hwe
        have hi0 : (0 : Int) ≤ (nb : Int) := by omega
        have hi1 : (nb : Int) < (nb : Int) + 1 := by omega
        have e1 : IntKind.i64.wrap (nb : Int) = (nb : Int) := by rw [IntKind.wrap_i64]; omega
        have e2 : IntKind.i64.wrap ((nb : Int) + 1 - 1) = (nb : Int) := by rw [IntKind.wrap_i64]; omega
        obtain ⟨sh, hsh⟩ : ∃ sh : Nat, sh = 8 - q % 8 - tk := ⟨_, rfl⟩
        have hsh8 : sh ≤ 8 := by omega
        have e3 : IntKind.i64.wrap (8 - (q : Int) % 8 - (tk : Int)) = (sh : Int) := by rw [IntKind.wrap_i64]; omega
        have e4 : IntKind.u64.wrap (sh : Int) = (sh : Int) := by rw [IntKind.wrap_u64]; omega
        have Hsh := Aside0.mk hsh
        clear hsh
        go_still_tail 20, (by kernel_rfl)
        change wpList _ _ _ _ _ W.drew
        have hw0' : W.drew.cell? ⟨g, 0, none⟩ = some (.slice (some ⟨gb, 0, none⟩) (nb + 1) cap) := hw0
        go_wp2
        go_roundw
        case measure => simp [intOf]; omega
        case rel =>
          have hsh := Hsh.out
          have hp2 : v / 2 ^ m = v / 2 ^ (m - tk) / 2 ^ tk := by rw [Nat.div_div_eq_div_mul, ← Nat.pow_add, show m - tk + tk = m from by omega]
          have hl2 : l' ++ bitsOf (v / 2 ^ (m - tk)) tk = l ++ bitsOf (v / 2 ^ (m - tk)) (cutN n - (m - tk)) := by
            rw [← Hl'.out, List.append_assoc, hp2, ← bitsOf_split, show cutN n - m + tk = cutN n - (m - tk) from by omega]
          refine ⟨m - tk, by omega, by rw [show ((m : Int) - tk) = ((m - tk : Nat) : Int) from by omega], ⟨?_⟩⟩
          have hval := put_value b0 (v / 2 ^ (m - tk)) tk sh hb1 (by omega) (by rw [show tk + sh = 8 - q % 8 from by omega]; exact HL.out)
          have hfin := HF.out (bitsOf (v / 2 ^ (m - tk)) tk) (by intro e; have := congrArg List.length e; rw [bitsOf_length] at this; simp at this; omega) (by rw [bitsOf_length]; omega)
          rw [num_bitsOf, bitsOf_length, ← hsh, hl2, ← hval] at hfin
          refine put_close HS1.out HN.out ?_ ?_
          · rw [← hfin, show ((v : Int) / 2 ^ (m - tk)) = ((v / 2 ^ (m - tk) : Nat) : Int) from by rw [Int.natCast_ediv, Int.natCast_pow]; rfl]
          · rw [← hl2, List.length_append, bitsOf_length, Hq.out]
            omega

theorem Bytes_calls (w0 w : World) (L : List Asn) (g : Nat) (l : List Int) (hl : l.length ≤ 1099511627776) (h : Sat w0 w (Wr g l :: L)) :
    Calls Tryd.prog 26 #[.pointer (some ⟨g, 0, none⟩)] w fun e w' => ∃ v, e = .returned v ∧ Sat w0 w' (Row (Kd.int .u8) 5 v (pk l) :: Wr g l :: L) := by
  obtain ⟨v, h1⟩ := h.some_
  have h2 := h1.opened
  obtain ⟨A, c, rfl, hcap, hC⟩ := (h2.nth 1 rfl).rowSlice
  have hc := h2.cell 0 (v := .slice A (pk l).length c) rfl
  have HC := Aside0.mk hC
  have HS := Aside0.mk h
  have hpl : (pk l).length < 140737488355328 := by rw [pk_length]; omega
  clear h h1 h2 hC
  go_enter Tryd.func26, Tryd.ntmps26
  go_wp2_with (first | (go_at_call 49; (with_reducible refine (slices_Clone_byte_byte.calls A c (pk l) (pk l) _ HC.out hcap (UvP.clone_f hpl)).mono ?_); rintro e w1 ⟨v0, rfl, hr, hb⟩))
  go_ret
  exact ⟨_, rfl, HS.out.made hb hr⟩
end Go.Proofs.YtmnlbedgkjnodaaDoor.WrW
namespace Go.Proofs.YtmnlbedgkjnodaaDoor.TzP
open Go.RowKit Go.Proofs.YtmnlbedgkjnodaaDoor.Bt
set_option linter.unusedVariables false
set_option linter.unusedSimpArgs false

theorem bitLenAux_lt : ∀ (f x : Nat), x < 2 ^ f → x < 2 ^ Lib.bitLenAux f x
  | 0, x, h => by simpa [Lib.bitLenAux] using h
  | f + 1, x, h => by
    simp only [Lib.bitLenAux]
    split
    · rename_i h0
      rw [h0]
      simp
    · have := bitLenAux_lt f (x / 2) (by rw [Nat.pow_succ] at h; omega)
      rw [Nat.add_comm, Nat.pow_succ]
      omega
/-- Leading zeros, at most 31; trailing ones. -/
def lz (y : Nat) : Nat := min 31 (64 - Lib.bitLen y)
def tz (y : Nat) : Nat := Lib.ctz 64 y
theorem lz_le (y : Nat) : lz y ≤ 31 := by unfold lz; omega
theorem lz_lt {y : Nat} (h : y < 18446744073709551616) : y < 2 ^ (64 - lz y) := by
  have h1 : y < 2 ^ Lib.bitLen y := bitLenAux_lt 64 y h
  have h2 : Lib.bitLen y ≤ 64 := Lib.bitLen_le y 64 (by omega) h
  exact Nat.lt_of_lt_of_le h1 (Nat.pow_le_pow_right (by omega) (by unfold lz; omega))
theorem tz_low {y : Nat} (h0 : y ≠ 0) (h : y < 18446744073709551616) : ∃ m, y = 2 ^ tz y * (2 * m + 1) ∧ tz y < 64 := by
  have h1 := Lib.ctzFrom_spec 64 y (by omega) h
  unfold tz Lib.ctz
  rw [if_neg h0]
  exact h1
theorem tz_mod {y : Nat} (h0 : y ≠ 0) (h : y < 18446744073709551616) : y % 2 ^ tz y = 0 := by
  obtain ⟨m, h1, _⟩ := tz_low h0 h
  conv => lhs; lhs; rw [h1]
  exact Nat.mul_mod_right _ _
theorem lz_tz {y : Nat} (h0 : y ≠ 0) (h : y < 18446744073709551616) : lz y + tz y ≤ 63 := by
  obtain ⟨m, h1, _⟩ := tz_low h0 h
  have h2 := lz_lt h
  have h3 : 2 ^ tz y ≤ y := by
    have : 2 ^ tz y * 1 ≤ 2 ^ tz y * (2 * m + 1) := Nat.mul_le_mul_left _ (by omega)
    omega
  have h4 : 2 ^ tz y < 2 ^ (64 - lz y) := by omega
  have h5 := (Nat.pow_lt_pow_iff_right (by omega : 1 < 2)).1 h4
  have := lz_le y
  omega

/-- A window: none, or its two numbers. -/
abbrev Win := Option (Nat × Nat)
def wl : Win → Int
  | none => -1
  | some p => p.1
def wt : Win → Int
  | none => -1
  | some p => p.2
def Win.Ok (w : Win) : Prop := ∀ p, w = some p → p.1 ≤ 31 ∧ p.1 + p.2 ≤ 63
theorem Win.ok_none : Win.Ok none := fun _ h => by cases h
def fits (y : Nat) : Win → Bool
  | none => false
  | some p => decide (p.1 ≤ lz y) && decide (p.2 ≤ tz y)
/-- A time's change. -/
def timeB (x : Int) : List Int :=
  if x = 0 then bitsOf 0 1
  else if -63 ≤ x ∧ x ≤ 64 then bitsOf 2 2 ++ bitsOf (x + 63).toNat 7
  else if -255 ≤ x ∧ x ≤ 256 then bitsOf 6 3 ++ bitsOf (x + 255).toNat 9
  else if -2047 ≤ x ∧ x ≤ 2048 then bitsOf 14 4 ++ bitsOf (x + 2047).toNat 12
  else bitsOf 15 4 ++ bitsOf (x % 18446744073709551616).toNat 64
/-- A value's. -/
def valueB (y : Nat) (w : Win) : List Int × Win :=
  if y = 0 then (bitsOf 0 1, w)
  else if fits y w = true then (bitsOf 2 2 ++ bitsOf (y / 2 ^ (wt w).toNat) (64 - (wl w).toNat - (wt w).toNat), w)
  else (bitsOf 3 2 ++ bitsOf (lz y) 5 ++ bitsOf (63 - lz y - tz y) 6 ++ bitsOf (y / 2 ^ tz y) (64 - lz y - tz y), some (lz y, tz y))
theorem timeB_isBits (x : Int) : IsBits (timeB x) := by
  unfold timeB
  repeat' split
  all_goals first | exact bitsOf_isBits _ _ | exact (bitsOf_isBits _ _).append (bitsOf_isBits _ _)
theorem timeB_length (x : Int) : 1 ≤ (timeB x).length ∧ (timeB x).length ≤ 68 := by
  unfold timeB
  repeat' split
  all_goals simp [bitsOf_length]
theorem valueB_isBits (y : Nat) (w : Win) : IsBits (valueB y w).1 := by
  unfold valueB
  repeat' split
  all_goals first | exact bitsOf_isBits _ _ | exact (bitsOf_isBits _ _).append (bitsOf_isBits _ _) | exact (((bitsOf_isBits _ _).append (bitsOf_isBits _ _)).append (bitsOf_isBits _ _)).append (bitsOf_isBits _ _)
theorem valueB_length (y : Nat) (w : Win) : 1 ≤ (valueB y w).1.length ∧ (valueB y w).1.length ≤ 77 := by
  unfold valueB
  repeat' split
  all_goals simp [bitsOf_length]
  all_goals omega
theorem valueB_ok {y : Nat} (h : y < 18446744073709551616) {w : Win} (hw : w.Ok) : (valueB y w).2.Ok := by
  unfold valueB
  repeat' split
  · exact hw
  · exact hw
  · rename_i h0 _
    intro p hp
    cases hp
    exact ⟨lz_le y, lz_tz h0 h⟩
end Go.Proofs.YtmnlbedgkjnodaaDoor.TzP
