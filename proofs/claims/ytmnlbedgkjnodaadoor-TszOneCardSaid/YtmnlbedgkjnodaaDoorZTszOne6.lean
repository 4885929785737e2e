/- What the document's printed Of and Get come to, in the words of Bt.
   More words for a walk's memory (see Sl): whole structs stored.
   The codec of points in plain words: the bits of a time's change, of a value's, of a list of points. No program in sight. -/
import Derived.Test.YtmnlbedgkjnodaaDoorZTszOne4
import Derived.Test.YtmnlbedgkjnodaaDoorZTszOne5
import Derived.Laws.Rows
import Derived.Laws.Tables
import Derived.Test.YtmnlbedgkjnodaaDoorZTszOne0
import Derived.Lib.TrailingZeros
import Derived.Lib.BitFns
set_option linter.unusedSimpArgs false
set_option linter.unusedVariables false
namespace Go.Proofs.YtmnlbedgkjnodaaDoor.BtR
open Go.RowKit Go.Proofs.YtmnlbedgkjnodaaDoorW.PrintWords Go.Proofs.YtmnlbedgkjnodaaDoorW.PrintLast Go.Proofs.YtmnlbedgkjnodaaDoorW.PrintMore Go.Proofs.YtmnlbedgkjnodaaDoor.QB Go.Proofs.YtmnlbedgkjnodaaDoor.Bt Go.Proofs.YtmnlbedgkjnodaaDoor.UvP Go.Proofs.YtmnlbedgkjnodaaDoor.WrW
theorem unpk_nil : unpk [] = [] := rfl
theorem unpk_one (x : Int) : unpk [x] = bitsOf x.toNat 8 := by rw [unpk_cons, unpk_nil, List.append_nil]
theorem ref_Of_l0 (b : List Int) (hb : ∀ x ∈ b, 0 ≤ x ∧ x < 256) (hl : b.length ≤ 1099511627776) : ∀ (d i k : Nat), i + d = b.length → d + 66 < k →
    thermographref03_Of.l0 k b (unpk (b.take i)) (i : Int) = some (unpk b) := by
  intro d
  induction d with
  | zero =>
    intro i k hi hk
    obtain ⟨k, rfl⟩ : ∃ m, k = m + 1 := ⟨k - 1, by omega⟩
    simp only [thermographref03_Of.l0]
    rw [if_neg (by omega), List.take_of_length_le (by omega)]
  | succ d ih =>
    intro i k hi hk
    obtain ⟨k, rfl⟩ : ∃ m, k = m + 1 := ⟨k - 1, by omega⟩
    have hlt : i < b.length := by omega
    have hr := hb _ (List.getElem_mem hlt)
    obtain ⟨x, hx⟩ : ∃ x : Nat, b[i] = (x : Int) := ⟨b[i].toNat, by omega⟩
    have e : IntKind.u64.wrap (rd b (i : Int)) = (x : Int) := by rw [rd_nat hlt, hx, IntKind.wrap_u64]; omega
    have hlen : (unpk (b.take i)).length ≤ 140737480000000 := by rw [unpk_length, List.length_take]; omega
    have hp := ref_Put_f (v := x) (k := k) (n := 8) (l := unpk (b.take i)) (by omega) (by omega) hlen
    have h8 : cutN 8 = 8 := rfl
    simp only [thermographref03_Of.l0]
    rw [if_pos (by omega), if_pos (by omega), e, hp, h8, wrap_one i hl hlt]
    have hn : unpk (b.take i) ++ bitsOf x 8 = unpk (b.take (i + 1)) := by
      rw [List.take_succ_eq_append_getElem hlt, unpk_append, unpk_one, hx]
      rfl
    rw [hn]
    exact ih (i + 1) k (by omega) (by omega)
theorem ref_Of_f {b : List Int} {k : Nat} (hb : ∀ x ∈ b, 0 ≤ x ∧ x < 256) (hl : b.length ≤ 1099511627776) (hk : b.length + 66 < k) : thermographref03_Of.f k b = some (unpk b) := by
  unfold thermographref03_Of.f
  have := ref_Of_l0 b hb hl b.length 0 k (by omega) hk
  simpa [unpk_nil] using this
set_option maxHeartbeats 2000000 in
theorem ref_Get_l0 (l : List Int) (hb : IsBits l) (c : Nat) (hc : c ≤ 64) (hcl : c ≤ l.length) (hl : l.length ≤ 140737488355328) : ∀ (d i k : Nat), i + d = c → d < k →
    thermographref03_Get.l0 k l (c : Int) ((num (l.take i) : Nat) : Int) (i : Int) = some (((num (l.take c) : Nat) : Int), l.drop c, true) := by
  intro d
  induction d with
  | zero =>
    intro i k hi hk
    obtain ⟨k, rfl⟩ : ∃ m, k = m + 1 := ⟨k - 1, by omega⟩
    obtain rfl : i = c := by omega
    have c1 : ¬ (i : Int) < (i : Int) := by omega
    have c2 : (0 : Int) ≤ (i : Int) := by omega
    have c3 : (i : Int) ≤ (l.length : Int) := by omega
    simp only [thermographref03_Get.l0]
    rw [if_neg c1, if_pos c2, if_pos c3, Int.toNat_natCast]
  | succ d ih =>
    intro i k hi hk
    obtain ⟨k, rfl⟩ : ∃ m, k = m + 1 := ⟨k - 1, by omega⟩
    have hlt : i < l.length := by omega
    have c1 : (i : Int) < (c : Int) := by omega
    have c2 : (0 : Int) ≤ (i : Int) := by omega
    have c3 : (i : Int) < (l.length : Int) := by omega
    have hic : i + 1 + d = c := by omega
    have hdk : d < k := by omega
    have ew : wrap64 ((i : Int) + 1) = ((i + 1 : Nat) : Int) := by unfold wrap64; omega
    have hx := hb _ (List.getElem_mem hlt)
    obtain ⟨x, hxe, hx1⟩ : ∃ x : Nat, l[i] = (x : Int) ∧ x ≤ 1 := by exact hx.elim (fun h => ⟨0, h, by omega⟩) (fun h => ⟨1, h, by omega⟩)
    have hn := num_lt (hb.take i)
    have hn2 : num (l.take i) < 9223372036854775808 := Nat.lt_of_lt_of_le hn (Nat.le_trans (Nat.pow_le_pow_right (by omega) (show (l.take i).length ≤ 63 by rw [List.length_take]; omega)) (by omega))
    have hs : num (l.take (i + 1)) = num (l.take i) * 2 + x := by
      rw [List.take_succ_eq_append_getElem hlt, num_snoc, hxe]
      rfl
    have e : IntKind.u64.wrap (IntKind.u64.wrap (((num (l.take i) : Nat) : Int) * 2) + IntKind.u64.wrap (rd l (i : Int))) = ((num (l.take (i + 1)) : Nat) : Int) := by
      rw [rd_nat hlt, hxe, IntKind.wrap_u64, IntKind.wrap_u64, IntKind.wrap_u64, hs]
      clear hb hl ih ew c1 c2 c3 hn hs hxe hi hk hc hcl
      generalize num (l.take i) = z at *
      omega
    simp only [thermographref03_Get.l0]
    rw [if_pos c1, if_pos c2, if_pos c3, e, ew]
    exact ih (i + 1) k hic hdk
theorem ref_Get_ok {l : List Int} {n : Int} {k : Nat} (hb : IsBits l) (hl : l.length ≤ 140737488355328) (hk : 65 < k) (hle : cutN n ≤ l.length) :
    thermographref03_Get.f k l n = some (((num (l.take (cutN n)) : Nat) : Int), l.drop (cutN n), true) := by
  have hc := cutN_le n
  unfold thermographref03_Get.f
  rw [ref_cut_f]
  simp only [Option.bind_some]
  rw [if_neg (by omega)]
  have := ref_Get_l0 l hb (cutN n) hc hle hl (cutN n) 0 k (by omega) (by omega)
  simpa [num_nil] using this
theorem ref_Get_none {l : List Int} {n : Int} {k : Nat} (hle : ¬ cutN n ≤ l.length) : thermographref03_Get.f k l n = some (0, l, false) := by
  unfold thermographref03_Get.f
  rw [ref_cut_f]
  simp only [Option.bind_some]
  rw [if_pos (by omega)]
end Go.Proofs.YtmnlbedgkjnodaaDoor.BtR
namespace Go.Proofs.YtmnlbedgkjnodaaDoor.Sl
open Go.RowKit Go.Proofs.YtmnlbedgkjnodaaDoorW.PrintWords Go.Proofs.YtmnlbedgkjnodaaDoorW.PrintLast Go.Proofs.YtmnlbedgkjnodaaDoorW.PrintMore
theorem Sat.setRow {w0 w : World} {L : List Asn} {g : Nat} {cs : Array Value} {t : TypeId} (h : Sat w0 w (Blk g cs t :: L)) (cs' : Array Value) : Sat w0 (w.setRow g cs') (Blk g cs' t :: L) := by
  have hge := h.ge
  have hlt := h.lt
  have hb := h.below
  refine h.turn (fun G hG hGB => ⟨fun k => k = g, ⟨rfl, setRow_heap w g cs cs' t (0, 0) hG.2⟩, hb.trans ⟨rfl, rfl, rfl, by simp, fun k hk => setRow_other w g k cs' (by omega)⟩, by simp, fun k _ hn => setRow_other w g k cs' (fun e => hn (by rw [e]; exact hG.1)), fun k hk => by subst hk; exact ⟨.inl hG.1, by simpa using hlt⟩⟩)
theorem alloc_size (w : World) (o : Obj) : (w.alloc o).heap.size = w.heap.size + 1 := Array.size_push _
end Go.Proofs.YtmnlbedgkjnodaaDoor.Sl
namespace Go.Proofs.YtmnlbedgkjnodaaDoor.TzP
open Go.RowKit Go.Proofs.YtmnlbedgkjnodaaDoor.Bt
theorem bitLenAux_lt : ∀ (f x : Nat), x < 2 ^ f → x < 2 ^ Lib.bitLenAux f x
  | 0, x, h => by simpa [Lib.bitLenAux] using h
  | f + 1, x, h => by
    simp only [Lib.bitLenAux]
    split
    · rename_i h0
      rw [h0]
      simp
    · have := bitLenAux_lt f (x / 2) (by rw [Nat.pow_succ] at h; omega)
      rw [Nat.add_comm, Nat.pow_succ]
      omega
def lz (y : Nat) : Nat := min 31 (64 - Lib.bitLen y)
def tz (y : Nat) : Nat := Lib.ctz 64 y
theorem lz_le (y : Nat) : lz y ≤ 31 := by unfold lz; omega
theorem lz_lt {y : Nat} (h : y < 18446744073709551616) : y < 2 ^ (64 - lz y) := by
  have h1 : y < 2 ^ Lib.bitLen y := bitLenAux_lt 64 y h
  have h2 : Lib.bitLen y ≤ 64 := Lib.bitLen_le y 64 (by omega) h
  exact Nat.lt_of_lt_of_le h1 (Nat.pow_le_pow_right (by omega) (by unfold lz; omega))
theorem tz_low {y : Nat} (h0 : y ≠ 0) (h : y < 18446744073709551616) : ∃ m, y = 2 ^ tz y * (2 * m + 1) ∧ tz y < 64 := by
  have h1 := Lib.ctzFrom_spec 64 y (by omega) h
  unfold tz Lib.ctz
  rw [if_neg h0]
  exact h1
theorem tz_mod {y : Nat} (h0 : y ≠ 0) (h : y < 18446744073709551616) : y % 2 ^ tz y = 0 := by
  obtain ⟨m, h1, _⟩ := tz_low h0 h
  conv => lhs; lhs; rw [h1]
  exact Nat.mul_mod_right _ _
theorem lz_tz {y : Nat} (h0 : y ≠ 0) (h : y < 18446744073709551616) : lz y + tz y ≤ 63 := by
  obtain ⟨m, h1, _⟩ := tz_low h0 h
  have h2 := lz_lt h
  have h3 : 2 ^ tz y ≤ y := by
    have : 2 ^ tz y * 1 ≤ 2 ^ tz y * (2 * m + 1) := Nat.mul_le_mul_left _ (by omega)
    omega
  have h4 : 2 ^ tz y < 2 ^ (64 - lz y) := by omega
  have h5 := (Nat.pow_lt_pow_iff_right (by omega : 1 < 2)).1 h4
  have := lz_le y
  omega
abbrev Win := Option (Nat × Nat)
def wl : Win → Int
  | none => -1
  | some p => p.1
def wt : Win → Int
  | none => -1
  | some p => p.2
def Win.Ok (w : Win) : Prop := ∀ p, w = some p → p.1 ≤ 31 ∧ p.1 + p.2 ≤ 63
theorem Win.ok_none : Win.Ok none := fun _ h => by cases h
def fits (y : Nat) : Win → Bool
  | none => false
  | some p => decide (p.1 ≤ lz y) && decide (p.2 ≤ tz y)
def timeB (x : Int) : List Int :=
  if x = 0 then bitsOf 0 1
  else if -63 ≤ x ∧ x ≤ 64 then bitsOf 2 2 ++ bitsOf (x + 63).toNat 7
  else if -255 ≤ x ∧ x ≤ 256 then bitsOf 6 3 ++ bitsOf (x + 255).toNat 9
  else if -2047 ≤ x ∧ x ≤ 2048 then bitsOf 14 4 ++ bitsOf (x + 2047).toNat 12
  else bitsOf 15 4 ++ bitsOf (x % 18446744073709551616).toNat 64
def valueB (y : Nat) (w : Win) : List Int × Win :=
  if y = 0 then (bitsOf 0 1, w)
  else if fits y w = true then (bitsOf 2 2 ++ bitsOf (y / 2 ^ (wt w).toNat) (64 - (wl w).toNat - (wt w).toNat), w)
  else (bitsOf 3 2 ++ bitsOf (lz y) 5 ++ bitsOf (63 - lz y - tz y) 6 ++ bitsOf (y / 2 ^ tz y) (64 - lz y - tz y), some (lz y, tz y))
theorem timeB_isBits (x : Int) : IsBits (timeB x) := by
  unfold timeB
  repeat' split
  all_goals first | exact bitsOf_isBits _ _ | exact (bitsOf_isBits _ _).append (bitsOf_isBits _ _)
theorem timeB_length (x : Int) : 1 ≤ (timeB x).length ∧ (timeB x).length ≤ 68 := by
  unfold timeB
  repeat' split
  all_goals simp [bitsOf_length]
theorem valueB_isBits (y : Nat) (w : Win) : IsBits (valueB y w).1 := by
  unfold valueB
  repeat' split
  all_goals first | exact bitsOf_isBits _ _ | exact (bitsOf_isBits _ _).append (bitsOf_isBits _ _) | exact (((bitsOf_isBits _ _).append (bitsOf_isBits _ _)).append (bitsOf_isBits _ _)).append (bitsOf_isBits _ _)
theorem valueB_length (y : Nat) (w : Win) : 1 ≤ (valueB y w).1.length ∧ (valueB y w).1.length ≤ 77 := by
  unfold valueB
  repeat' split
  all_goals simp [bitsOf_length]
  all_goals omega
theorem valueB_ok {y : Nat} (h : y < 18446744073709551616) {w : Win} (hw : w.Ok) : (valueB y w).2.Ok := by
  unfold valueB
  repeat' split
  · exact hw
  · exact hw
  · rename_i h0 _
    intro p hp
    cases hp
    exact ⟨lz_le y, lz_tz h0 h⟩
end Go.Proofs.YtmnlbedgkjnodaaDoor.TzP
