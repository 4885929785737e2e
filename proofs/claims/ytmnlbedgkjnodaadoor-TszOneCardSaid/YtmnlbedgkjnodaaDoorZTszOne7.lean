/- What the package-level variables hold that the codec reads: the library's table of trailing zeros, and the window that is none; kept wherever what was there is kept.
   What the calls of the codec's writers come to: tsz.of, within, putTime, putValue.
   Which lists of points may be, and the bits of a list, in plain words. -/
import Derived.Test.YtmnlbedgkjnodaaDoorWKept
import Derived.Shelf.Spec.TrailingZeros
import Derived.Test.YtmnlbedgkjnodaaDoorZTszOne6
import Derived.Test.YtmnlbedgkjnodaaDoorZTszOne3
import Derived.Test.YtmnlbedgkjnodaaDoorZTszOne1
import Derived.OneCell
import Derived.BigQuiet
import Derived.Test.YtmnlbedgkjnodaaDoorZTszOne0
set_option linter.unusedSimpArgs false
set_option linter.unusedVariables false
namespace Go.Proofs.YtmnlbedgkjnodaaDoor.Ld
open Go.RowKit
def LaidW (w : World) : Prop := TabAt 1 Lib.deBruijn64tab w ∧ w.cell? ⟨0, 0, none⟩ = some (.int .i64 (-1)) ∧ w.cell? ⟨0, 1, none⟩ = some (.int .i64 (-1))
theorem LaidW.below {w w' : World} (h : LaidW w) (hb : Below w.heap.size w w') : LaidW w' :=
  ⟨fun j hj => (hb.cell (World.block_lt_of_cell? w _ (h.1 j hj))).trans (h.1 j hj), (hb.cell (World.block_lt_of_cell? w _ h.2.1)).trans h.2.1, (hb.cell (World.block_lt_of_cell? w _ h.2.2)).trans h.2.2⟩
end Go.Proofs.YtmnlbedgkjnodaaDoor.Ld
namespace Go.Proofs.YtmnlbedgkjnodaaDoor.TzW
open Go.RowKit Go.Proofs.YtmnlbedgkjnodaaDoorW.PrintWords Go.Proofs.YtmnlbedgkjnodaaDoorW.PrintLast Go.Proofs.YtmnlbedgkjnodaaDoorW.PrintMore Go.Proofs.YtmnlbedgkjnodaaDoor.QB Go.Proofs.YtmnlbedgkjnodaaDoor.Sl Go.Proofs.YtmnlbedgkjnodaaDoor.Bt Go.Proofs.YtmnlbedgkjnodaaDoor.WrW Go.Proofs.YtmnlbedgkjnodaaDoor.TzP Go.Proofs.YtmnlbedgkjnodaaDoor.Ld
attribute [local go_sem] max2_int min2_int max_two min_two
set_option maxHeartbeats 1000000 in
theorem tz_core (x k idx : Nat) (w : World) (hx0 : ((x : Int) == 0) = false)
    (key : IntKind.u64.wrap (bits BinOp.and IntKind.u64 (x : Int) (IntKind.u64.wrap (-(x : Int))) * 285870213051353865) / 288230376151711744 = (idx : Int))
    (hi : idx < 64) (hk : k < 64) (hcell : w.cell? ⟨1, idx, none⟩ = some (.int .u8 k)) :
    Calls Tryd.prog 58 #[.int .u64 x] w fun e w' => e = .returned (.int .i64 k) ∧ w' = w := by
  go_enter Tryd.func58, Tryd.ntmps58
  go_wp2_with (simp only [key])
  go_ret
  exact ⟨rfl, rfl⟩
theorem tz_calls (x : Nat) (hx : x < 18446744073709551616) (hx0 : x ≠ 0) (w : World) (hL : LaidW w) :
    Calls Tryd.prog 58 #[.int .u64 x] w fun e w' => e = .returned (.int .i64 (tz x)) ∧ w' = w := by
  obtain ⟨hlow, hk⟩ := Lib.lowest_bit 64 x hx0 hx
  obtain ⟨hi, htab⟩ := Lib.deBruijn64_at _ hk
  have hcell := hL.1 _ hi
  rw [htab] at hcell
  exact tz_core x _ _ w (by simp; omega) (tz64_key x _ hx hx0 hlow) hi hk hcell
set_option maxHeartbeats 1000000 in
theorem of_calls (y : Nat) (hy : y < 18446744073709551616) (hy0 : y ≠ 0) (w : World) (hL : LaidW w) :
    Calls Tryd.prog 46 #[.int .u64 y] w fun e w' => e = .returned (.agg #[.int .i64 (lz y), .int .i64 (tz y)]) ∧ Below w.heap.size w w' := by
  have hbl : Lib.bitLen y ≤ 64 := Lib.bitLen_le y 64 (by omega) hy
  have HL := Aside0.mk hL
  have hz := (Sat.start w).newBlk #[.int .i64 0, .int .i64 0] 47
  have HZ := Aside0.mk hz
  clear hL hz
  go_enter Tryd.func46, Tryd.ntmps46
  go_wp2_with (first | (go_at_call 57; go_loud ((with_reducible refine (Tryd.bits_LeadingZeros64 (y : Int) _ (by omega) (by omega)).mono ?_); rintro e w1 ⟨rfl, rfl⟩)) | (go_at_call 58; go_loud ((with_reducible refine (tz_calls y hy hy0 _ (LaidW.below HL.out HZ.out.below)).mono ?_); rintro e w1 ⟨rfl, rfl⟩)))
  · have e : (31 : Int) = (lz y : Int) := by unfold lz; omega
    refine bodyPost_ret (results_cell_row rfl _ _ w.heap.size 47 _ (0, 0) _ rfl (heap_alloc_new _ _) Tryd.underlying47 rfl (by kernel_rfl)) rfl ?_
    exact ⟨by rw [← e], below_alloc (Below.refl _ _) _⟩
  · have e : (64 : Int) - (Lib.bitLen y : Int) = (lz y : Int) := by unfold lz; omega
    refine bodyPost_ret (results_cell_row rfl _ _ w.heap.size 47 _ (0, 0) _ rfl (heap_alloc_new _ _) Tryd.underlying47 rfl (by kernel_rfl)) rfl ?_
    exact ⟨by rw [e], below_alloc (Below.refl _ _) _⟩
theorem within_none (a b : Int) (w : World) (hL : LaidW w) :
    Calls Tryd.prog 47 #[.agg #[.int .i64 a, .int .i64 b], .agg #[.int .i64 (-1), .int .i64 (-1)]] w fun e w' => e = .returned (.bool false) ∧ Below w.heap.size w w' := by
  have h1 := ((Sat.start w).newBlk #[.int .i64 a, .int .i64 b] 47).newBlk #[.int .i64 (-1), .int .i64 (-1)] 47
  rw [alloc_size] at h1
  have H1 := Aside0.mk h1
  have HL := Aside0.mk hL
  clear h1 hL
  go_enter Tryd.func47, Tryd.ntmps47
  go_upto_region 1 with (fail)
  generalize (w.alloc (.cells #[.int .i64 a, .int .i64 b] 47)).alloc (.cells #[.int .i64 (-1), .int .i64 (-1)] 47) = w1 at H1 ⊢
  have k0 := H1.out.cell 0 (v := .int .i64 (-1)) rfl
  have k1 := H1.out.cell 1 (v := .int .i64 (-1)) rfl
  have hl := LaidW.below HL.out H1.out.below
  have k2 := hl.2.1
  have k3 := hl.2.2
  clear hl
  go_wp2
  go_ret
  exact ⟨rfl, H1.out.below⟩
theorem within_some (a b c d : Nat) (w : World) (hL : LaidW w) :
    Calls Tryd.prog 47 #[.agg #[.int .i64 a, .int .i64 b], .agg #[.int .i64 c, .int .i64 d]] w fun e w' => e = .returned (.bool (decide (c ≤ a) && decide (d ≤ b))) ∧ Below w.heap.size w w' := by
  have h1 := ((Sat.start w).newBlk #[.int .i64 a, .int .i64 b] 47).newBlk #[.int .i64 c, .int .i64 d] 47
  rw [alloc_size] at h1
  have H1 := Aside0.mk h1
  have HL := Aside0.mk hL
  clear h1 hL
  have hc : ((c : Int) == -1) = false := by rw [beq_eq_false_iff_ne]; omega
  by_cases h1 : c ≤ a
  · have d1 : decide ((c : Int) ≤ (a : Int)) = true := decide_eq_true (by omega)
    have d1' : decide (c ≤ a) = true := decide_eq_true h1
    by_cases h2 : d ≤ b
    · have d2 : decide ((d : Int) ≤ (b : Int)) = true := decide_eq_true (by omega)
      have d2' : decide (d ≤ b) = true := decide_eq_true h2
      go_enter Tryd.func47, Tryd.ntmps47
      go_upto_region 1 with (fail)
      generalize (w.alloc (.cells #[.int .i64 a, .int .i64 b] 47)).alloc (.cells #[.int .i64 c, .int .i64 d] 47) = w1 at H1 ⊢
      have k0 := H1.out.cell 0 (v := .int .i64 c) rfl
      have k1 := H1.out.cell 1 (v := .int .i64 d) rfl
      have k4 := (H1.out.nth 1 rfl).cell 0 (v := .int .i64 a) rfl
      have k5 := (H1.out.nth 1 rfl).cell 1 (v := .int .i64 b) rfl
      have hl := LaidW.below HL.out H1.out.below
      have k2 := hl.2.1
      have k3 := hl.2.2
      clear hl
      go_wp2
      go_ret
      exact ⟨by simp [d1', d2'], H1.out.below⟩
    · have d2 : decide ((d : Int) ≤ (b : Int)) = false := decide_eq_false (by omega)
      have d2' : decide (d ≤ b) = false := decide_eq_false h2
      go_enter Tryd.func47, Tryd.ntmps47
      go_upto_region 1 with (fail)
      generalize (w.alloc (.cells #[.int .i64 a, .int .i64 b] 47)).alloc (.cells #[.int .i64 c, .int .i64 d] 47) = w1 at H1 ⊢
      have k0 := H1.out.cell 0 (v := .int .i64 c) rfl
      have k1 := H1.out.cell 1 (v := .int .i64 d) rfl
      have k4 := (H1.out.nth 1 rfl).cell 0 (v := .int .i64 a) rfl
      have k5 := (H1.out.nth 1 rfl).cell 1 (v := .int .i64 b) rfl
      have hl := LaidW.below HL.out H1.out.below
      have k2 := hl.2.1
      have k3 := hl.2.2
      clear hl
      go_wp2
      go_ret
      exact ⟨by simp [d1', d2'], H1.out.below⟩
  · have d1 : decide ((c : Int) ≤ (a : Int)) = false := decide_eq_false (by omega)
    have d1' : decide (c ≤ a) = false := decide_eq_false h1
    go_enter Tryd.func47, Tryd.ntmps47
    go_upto_region 1 with (fail)
    generalize (w.alloc (.cells #[.int .i64 a, .int .i64 b] 47)).alloc (.cells #[.int .i64 c, .int .i64 d] 47) = w1 at H1 ⊢
    have k0 := H1.out.cell 0 (v := .int .i64 c) rfl
    have k1 := H1.out.cell 1 (v := .int .i64 d) rfl
    have k4 := (H1.out.nth 1 rfl).cell 0 (v := .int .i64 a) rfl
    have k5 := (H1.out.nth 1 rfl).cell 1 (v := .int .i64 b) rfl
    have hl := LaidW.below HL.out H1.out.below
    have k2 := hl.2.1
    have k3 := hl.2.2
    clear hl
    go_wp2
    go_ret
    exact ⟨by simp [d1'], H1.out.below⟩
theorem within_calls (a b : Nat) (x : Win) (w : World) (hL : LaidW w) {y : Nat} (ha : a = lz y) (hb : b = tz y) :
    Calls Tryd.prog 47 #[.agg #[.int .i64 a, .int .i64 b], .agg #[.int .i64 (wl x), .int .i64 (wt x)]] w fun e w' => e = .returned (.bool (fits y x)) ∧ Below w.heap.size w w' := by
  subst ha hb
  cases x with
  | none => exact within_none _ _ w hL
  | some p => exact within_some _ _ p.1 p.2 w hL
theorem size_f {a b : Nat} (h : a + b ≤ 63) : tsz_window_size.f (a : Int) (b : Int) = some ((64 - a - b : Nat) : Int) := by
  unfold tsz_window_size.f wrap64
  congr 1
  omega
theorem shr_value (y b : Nat) (hb : b ≤ 64) : (y : Int) / 2 ^ min (IntKind.u64.wrap (b : Int)).toNat 64 = ((y / 2 ^ b : Nat) : Int) := by
  have e : min (IntKind.u64.wrap (b : Int)).toNat 64 = b := by rw [IntKind.wrap_u64]; omega
  rw [e, Int.natCast_ediv, Int.natCast_pow]
  rfl
theorem cutN_nat (n : Nat) (h : n ≤ 64) : cutN (n : Int) = n := by unfold cutN; omega
theorem Put_at (w0 w : World) (L : List Asn) (g : Nat) (l : List Int) (v n : Int) (vn m : Nat) (hv : v = (vn : Int)) (hm : cutN n = m) (hvl : vn < 18446744073709551616) (hl : l.length ≤ 1099511627776) (hb : IsBits l) (h : Sat w0 w (Wr g l :: L)) :
    Calls Tryd.prog 22 #[.pointer (some ⟨g, 0, none⟩), .int .u64 v, .int .i64 n] w fun e w' => e = .returned (.tuple #[]) ∧ Sat w0 w' (Wr g (l ++ bitsOf vn m) :: L) := by
  subst hv hm
  exact Put_calls w0 w L g l vn n hvl hl hb h
set_option maxHeartbeats 4000000 in
set_option maxRecDepth 100000 in
theorem putValue_zero (w0 w : World) (L : List Asn) (g : Nat) (l : List Int) (x : Win) (hl : l.length ≤ 1099511627776) (hb : IsBits l) (h : Sat w0 w (Wr g l :: L)) :
    Calls Tryd.prog 24 #[.pointer (some ⟨g, 0, none⟩), .int .u64 0, .agg #[.int .i64 (wl x), .int .i64 (wt x)]] w fun e w' => e = .returned (.agg #[.int .i64 (wl x), .int .i64 (wt x)]) ∧ Sat w0 w' (Wr g (l ++ bitsOf 0 1) :: L) := by
  have h1 := (h.newBlk #[.int .i64 (wl x), .int .i64 (wt x)] 47).newBlk #[.int .i64 0, .int .i64 0] 47
  rw [alloc_size] at h1
  have H1 := Aside0.mk (show Sat w0 _ (Wr g l :: Blk (w.heap.size + 1) #[.int .i64 0, .int .i64 0] 47 :: Blk w.heap.size #[.int .i64 (wl x), .int .i64 (wt x)] 47 :: L) from h1.nth 2 rfl)
  clear h1 h
  go_enter Tryd.func24, Tryd.ntmps24
  go_upto_region 1 with (fail)
  generalize hw1 : (w.alloc (.cells #[.int .i64 (wl x), .int .i64 (wt x)] 47)).alloc (.cells #[.int .i64 0, .int .i64 0] 47) = w1 at H1 ⊢
  clear hw1
  go_wp2_with (first | (go_at_call 22; go_loud ((with_reducible refine (Put_at w0 w1 _ g l 0 1 0 1 rfl rfl (by omega) hl hb H1.out).mono ?_); rintro e w2 ⟨rfl, hs⟩; have H2 : Aside0 (Sat w0 w2 (Wr g (l ++ bitsOf 0 1) :: Blk (w.heap.size + 1) #[.int .i64 0, .int .i64 0] 47 :: Blk w.heap.size #[.int .i64 (wl x), .int .i64 (wt x)] 47 :: L)) := ⟨hs⟩; clear hs; have k0 := (H2.out.nth 2 rfl).cell 0 (v := .int .i64 (wl x)) rfl; have k1 := (H2.out.nth 2 rfl).cell 1 (v := .int .i64 (wt x)) rfl)) | ((with_reducible refine gate_store (p := 6) rfl ?_); go_loud (refine wpList_store_row rfl 47 (.tmp 6) (.tmp 12) rfl (w.heap.size + 1) #[.int .i64 (wl x), .int .i64 (wt x)] rfl rfl 47 _ (H2.out.nth 1 rfl).blk (by kernel_rfl) rfl (by simp [Value.oneCell']) ?_; have HZ := Aside0.mk (Sat.setRow (H2.out.nth 1 rfl) #[.int .i64 (wl x), .int .i64 (wt x)]))))
  refine bodyPost_ret (results_cell_row rfl _ _ (w.heap.size + 1) 47 #[.int .i64 (wl x), .int .i64 (wt x)] (0, 0) _ rfl HZ.out.blk Tryd.underlying47 rfl (by kernel_rfl)) rfl ?_
  exact ⟨rfl, (show Sat w0 _ (Blk w.heap.size _ 47 :: Wr g (l ++ bitsOf 0 1) :: L) from HZ.out.tail.nth 1 rfl).tail⟩
def Pv.T11 : Bool × List (List Nat × List Nat) := (true, [([], []), ([], []), ([], []), ([2], [2]), ([3], [3]), ([1, 4], [1, 4]), ([], []), ([6], [6]), ([0, 5, 7, 7], [0, 5, 7])])
def Pv.B11 : List Nat := [0, 0, 0, 4, 12, 30, 0, 64, 255]
theorem Pv.tab11 : rtab .any (opsOf Tryd.f24 11) = Pv.T11 := by kernel_rfl
theorem Pv.bits11 : waitsOk Pv.T11.2 Pv.B11 = true := by kernel_rfl
set_option maxHeartbeats 4000000 in
set_option maxRecDepth 100000 in
theorem putValue_fits (w0 w : World) (L : List Asn) (g : Nat) (l : List Int) (y a b : Nat) (hy : y < 18446744073709551616) (hy0 : y ≠ 0) (hf : fits y (some (a, b)) = true) (hab : a + b ≤ 63) (hl : l.length ≤ 1099511627000) (hb : IsBits l) (hL : LaidW w0) (h : Sat w0 w (Wr g l :: L)) :
    Calls Tryd.prog 24 #[.pointer (some ⟨g, 0, none⟩), .int .u64 y, .agg #[.int .i64 a, .int .i64 b]] w fun e w' => e = .returned (.agg #[.int .i64 a, .int .i64 b]) ∧ Sat w0 w' (Wr g (l ++ (bitsOf 2 2 ++ bitsOf (y / 2 ^ b) (64 - a - b))) :: L) := by
  have h1 := (h.newBlk #[.int .i64 a, .int .i64 b] 47).newBlk #[.int .i64 0, .int .i64 0] 47
  rw [alloc_size] at h1
  have H1 := Aside0.mk (show Sat w0 _ (Wr g l :: Blk (w.heap.size + 1) #[.int .i64 0, .int .i64 0] 47 :: Blk w.heap.size #[.int .i64 a, .int .i64 b] 47 :: L) from h1.nth 2 rfl)
  have HL := Aside0.mk hL
  have HSZ := Aside0.mk (size_f hab)
  have HF := Aside0.mk hf
  have d0 : ((y : Int) == 0) = false := by rw [beq_eq_false_iff_ne]; omega
  have hwl : wl (some (a, b)) = (a : Int) := rfl
  have hwt : wt (some (a, b)) = (b : Int) := rfl
  have HW := Aside0.mk (fun (w' : World) (hL' : LaidW w') => within_calls (lz y) (tz y) (some (a, b)) w' hL' rfl rfl)
  rw [hwl, hwt, hf] at HW
  clear h1 h hL hf hwl hwt
  go_enter Tryd.func24, Tryd.ntmps24
  go_upto_region 1 with (fail)
  generalize hw1 : (w.alloc (.cells #[.int .i64 a, .int .i64 b] 47)).alloc (.cells #[.int .i64 0, .int .i64 0] 47) = w1 at H1 ⊢
  clear hw1
  go_upto_region 5 with (first | (go_at_call 46; go_loud ((with_reducible refine (of_calls y hy hy0 _ (LaidW.below HL.out H1.out.below)).mono ?_); rintro e w2 ⟨rfl, hb2⟩; have H2 := Aside0.mk (H1.out.step hb2); clear hb2)))
  have H3 := Aside0.mk (H2.out.newBlk #[.int .i64 (lz y), .int .i64 (tz y)] 47)
  generalize w2.alloc (.cells #[.int .i64 (lz y), .int .i64 (tz y)] 47) = w3 at H3 ⊢
  generalize w2.heap.size = g7 at H3 ⊢
  have k0 := H3.out.cell 0 (v := .int .i64 (lz y)) rfl
  have k1 := H3.out.cell 1 (v := .int .i64 (tz y)) rfl
  have k2 := (H3.out.nth 3 rfl).cell 0 (v := .int .i64 a) rfl
  have k3 := (H3.out.nth 3 rfl).cell 1 (v := .int .i64 b) rfl
  have HW3 := Aside0.mk (HW.out w3 (LaidW.below HL.out H3.out.below))
  go_wp2_with (first | (go_at_call 47; go_loud ((with_reducible refine (HW3.out).mono ?_); rintro e w4 ⟨rfl, hb4⟩; have H4 := Aside0.mk ((H3.out.nth 1 rfl).step hb4); clear hb4)) | (go_at_call 22; go_loud ((with_reducible refine (Put_at w0 w4 _ g l 2 2 2 2 rfl rfl (by omega) (by omega) hb H4.out).mono ?_); rintro e w5 ⟨rfl, hs⟩; have H5 : Aside0 (Sat w0 w5 (Wr g (l ++ bitsOf 2 2) :: Blk g7 #[.int .i64 (lz y), .int .i64 (tz y)] 47 :: Blk (w.heap.size + 1) #[.int .i64 0, .int .i64 0] 47 :: Blk w.heap.size #[.int .i64 a, .int .i64 b] 47 :: L)) := ⟨hs⟩; clear hs)))
  have HD := Aside0.mk H5.out.drew
  have q0 := (HD.out.nth 3 rfl).cell 0 (v := .int .i64 a) rfl
  have q1 := (HD.out.nth 3 rfl).cell 1 (v := .int .i64 b) rfl
  have hsv := shr_value y b (by omega)
  have HSV := Aside0.mk (show (y : Int) / 2 ^ b = ((y / 2 ^ b : Nat) : Int) from by rw [Int.natCast_ediv, Int.natCast_pow]; rfl)
  have hyb : y / 2 ^ b < 18446744073709551616 := Nat.lt_of_le_of_lt (Nat.div_le_self _ _) hy
  obtain ⟨l1, hl1e⟩ : ∃ l1, l ++ bitsOf 2 2 = l1 := ⟨_, rfl⟩
  rw [hl1e] at HD
  have hl1 : l1.length ≤ 1099511627776 := by rw [← hl1e, List.length_append, bitsOf_length]; omega
  have hb1 : IsBits l1 := by rw [← hl1e]; exact hb.append (bitsOf_isBits _ _)
  have HLE := Aside0.mk hl1e
  clear hl1e k0 k1 k2 k3 H1 H2 H3 H4 H5 HW HW3
  refine start_ (n := 9) (S := fun w' => w'.cell? ⟨w.heap.size, 0, none⟩ = some (.int .i64 a) ∧ w'.cell? ⟨w.heap.size, 1, none⟩ = some (.int .i64 b)) (ds := []) #[false, false, false, false, false, false, false, false, false] (by kernel_rfl) rfl rfl ⟨q0, q1⟩ (fun hHeld => ?_)
  refine with_tabW Pv.tab11 Pv.bits11 (fun HT_ HW_ => ?_)
  refine pure_ (i := 0) (N := some 34) (v := ?_) (a' := ?_) #[true, false, false, false, false, false, false, false, false] rfl rfl (any_of HT_.out (by kernel_rfl)) (fun _ _ _ h => h) (Or.inl ⟨by rfl, ?_⟩) ?_ ?_
  rotate_left
  · intro w'
    go_simp
    with_reducible rfl
  rotate_left
  · simp only [Act.put, List.setIfInBounds_toArray, List.set_cons_zero, List.set_cons_succ, i64_w, i32_w]
    rfl
  refine pure_ (i := 1) (N := some 35) (v := ?_) (a' := ?_) #[true, true, false, false, false, false, false, false, false] rfl rfl (any_of HT_.out (by kernel_rfl)) (fun _ _ _ h => h) (Or.inl ⟨by rfl, ?_⟩) ?_ ?_
  rotate_left
  · intro w'
    go_simp
    with_reducible rfl
  rotate_left
  · simp only [Act.put, List.setIfInBounds_toArray, List.set_cons_zero, List.set_cons_succ, i64_w, i32_w]
    rfl
  refine pure_ (i := 2) (N := some 36) (v := ?_) (a' := ?_) #[true, true, true, false, false, false, false, false, false] rfl rfl (any_of HT_.out (by kernel_rfl)) (fun _ _ _ h => h) (Or.inl ⟨by rfl, ?_⟩) ?_ ?_
  rotate_left
  · intro w'
    go_simp
    with_reducible rfl
  rotate_left
  · simp only [Act.put, List.setIfInBounds_toArray, List.set_cons_zero, List.set_cons_succ, i64_w, i32_w]
    rfl
  refine take_ (i := 3) (N := some 37) (v := ?_) (a' := ?_) #[true, true, true, true, false, false, false, false, false] rfl rfl (take_ofW HT_.out HW_.out (by kernel_rfl)) (fun _ _ _ h => h) (Or.inl ⟨by rfl, ?_⟩) hHeld ?_ ?_
  rotate_left
  · rintro w' ⟨s0, s1⟩
    go_simp
    with_reducible rfl
  rotate_left
  · simp only [Act.put, List.setIfInBounds_toArray, List.set_cons_zero, List.set_cons_succ, i64_w, i32_w]
    rfl
  refine take_ (i := 4) (N := some 38) (v := ?_) (a' := ?_) #[true, true, true, true, true, false, false, false, false] rfl rfl (take_ofW HT_.out HW_.out (by kernel_rfl)) (fun _ _ _ h => h) (Or.inl ⟨by rfl, ?_⟩) hHeld ?_ ?_
  rotate_left
  · rintro w' ⟨s0, s1⟩
    go_simp
    with_reducible rfl
  rotate_left
  · simp only [Act.put, List.setIfInBounds_toArray, List.set_cons_zero, List.set_cons_succ, i64_w, i32_w]
    rfl
  refine pure_ (i := 5) (N := some 39) (v := ?_) (a' := ?_) #[true, true, true, true, true, true, false, false, false] rfl rfl (any_of HT_.out (by kernel_rfl)) (fun _ _ _ h => h) (Or.inl ⟨by rfl, ?_⟩) ?_ ?_
  rotate_left
  · intro w'
    go_simp
    with_reducible rfl
  rotate_left
  · simp only [Act.put, List.setIfInBounds_toArray, List.set_cons_zero, List.set_cons_succ, i64_w, i32_w]
    rfl
  refine take_ (i := 6) (N := some 40) (v := ?_) (a' := ?_) #[true, true, true, true, true, true, true, false, false] rfl rfl (take_ofW HT_.out HW_.out (by kernel_rfl)) (fun _ _ _ h => h) (Or.inl ⟨by rfl, ?_⟩) hHeld ?_ ?_
  rotate_left
  · rintro w' ⟨s0, s1⟩
    go_simp
    with_reducible rfl
  rotate_left
  · simp only [Act.put, List.setIfInBounds_toArray, List.set_cons_zero, List.set_cons_succ, i64_w, i32_w]
    rfl
  refine one_ (i := 7) (N := some 41) #[true, true, true, true, true, true, true, true, false] rfl rfl (one_of HT_.out (by kernel_rfl)) (by decide) (fun K hK => ?_)
  refine goes_ Tryd.func48 (by kernel_rfl) rfl #[.agg #[.int .i64 a, .int .i64 b]] (by rfl) rfl rfl (by simp only [List.map_toArray, List.map_cons, List.map_nil]; rfl) ?_
  with_reducible refine (tsz_window_size.calls (a : Int) (b : Int) _ _ HSZ.out).mono ?_
  rintro e w7 ⟨rfl, hb7⟩
  refine ⟨_, rfl, ?_⟩
  have HS7 := Aside0.mk (HD.out.step hb7)
  clear hb7
  have p0 := (HS7.out.nth 3 rfl).cell 0 (v := .int .i64 a) rfl
  have p1 := (HS7.out.nth 3 rfl).cell 1 (v := .int .i64 b) rfl
  refine hK.out _ _ ⟨p0, p1⟩ (fun hHeld => ?_)
  clear hK K
  refine norm_ (a' := ?_) ?_ ?_
  rotate_left
  · show Act.put _ (some 41) _ = _
    simp only [Act.put, List.setIfInBounds_toArray, List.set_cons_zero, List.set_cons_succ, i64_w, i32_w]
    rfl
  refine one_ (i := 8) (N := some 42) #[true, true, true, true, true, true, true, true, true] rfl rfl (one_of HT_.out (by kernel_rfl)) (by decide) (fun K hK => ?_)
  refine goes_ Tryd.func22 (by kernel_rfl) rfl #[.pointer (some ⟨g, 0, none⟩), .int .u64 ((y : Int) / 2 ^ b), .int .i64 ((64 - a - b : Nat) : Int)] (by rfl) rfl rfl (by simp only [List.map_toArray, List.map_cons, List.map_nil]; rfl) ?_
  with_reducible refine (Put_at w0 w7 _ g l1 _ _ (y / 2 ^ b) (64 - a - b) HSV.out (cutN_nat _ (by omega)) hyb hl1 hb1 HS7.out).mono ?_
  rintro e w8 ⟨rfl, hs8⟩
  refine ⟨_, rfl, ?_⟩
  have HS8 := Aside0.mk hs8
  clear hs8
  have r0 := (HS8.out.nth 3 rfl).cell 0 (v := .int .i64 a) rfl
  have r1 := (HS8.out.nth 3 rfl).cell 1 (v := .int .i64 b) rfl
  refine hK.out _ _ ⟨r0, r1⟩ (fun hHeld => ?_)
  clear hK K
  refine norm_ (a' := ?_) ?_ ?_
  rotate_left
  · show Act.put _ (some 42) _ = _
    simp only [Act.put, List.setIfInBounds_toArray, List.set_cons_zero, List.set_cons_succ, i64_w, i32_w]
    rfl
  refine done_ (done_of HT_.out (by kernel_rfl)) ?_
  go_wp2_with (first | ((with_reducible refine gate_store (p := 6) rfl ?_); go_loud (refine wpList_store_row rfl 47 (.tmp 6) (.tmp 43) rfl (w.heap.size + 1) #[.int .i64 a, .int .i64 b] rfl rfl 47 _ (HS8.out.nth 2 rfl).blk (by kernel_rfl) rfl (by simp [Value.oneCell']) ?_; have HZ := Aside0.mk (Sat.setRow (HS8.out.nth 2 rfl) #[.int .i64 a, .int .i64 b]))))
  refine bodyPost_ret (results_cell_row rfl _ _ (w.heap.size + 1) 47 #[.int .i64 a, .int .i64 b] (0, 0) _ rfl HZ.out.blk Tryd.underlying47 rfl (by kernel_rfl)) rfl ?_
  have hz : Sat w0 _ (Wr g (l1 ++ bitsOf (y / 2 ^ b) (64 - a - b)) :: Blk g7 _ 47 :: Blk w.heap.size _ 47 :: L) := HZ.out.tail
  rw [← HLE.out, List.append_assoc] at hz
  exact ⟨rfl, ((hz.nth 1 rfl).tail.nth 1 rfl).tail⟩
def Pw.T11 : Bool × List (List Nat × List Nat) := (true, [([], []), ([], []), ([], []), ([2], [2]), ([3], [3]), ([1, 4], [1, 4]), ([], []), ([6], [6]), ([0, 5, 7, 7], [0, 5, 7])])
def Pw.B11 : List Nat := [0, 0, 0, 4, 12, 30, 0, 64, 255]
theorem Pw.tab11 : rtab .any (opsOf Tryd.f24 11) = Pw.T11 := by kernel_rfl
theorem Pw.bits11 : waitsOk Pw.T11.2 Pw.B11 = true := by kernel_rfl
set_option maxHeartbeats 4000000 in
set_option maxRecDepth 100000 in
theorem putValue_wide (w0 w : World) (L : List Asn) (g : Nat) (l : List Int) (y : Nat) (x : Win) (hy : y < 18446744073709551616) (hy0 : y ≠ 0) (hf : fits y x = false) (hl : l.length ≤ 1099511627000) (hb : IsBits l) (hL : LaidW w0) (h : Sat w0 w (Wr g l :: L)) :
    Calls Tryd.prog 24 #[.pointer (some ⟨g, 0, none⟩), .int .u64 y, .agg #[.int .i64 (wl x), .int .i64 (wt x)]] w fun e w' => e = .returned (.agg #[.int .i64 (lz y), .int .i64 (tz y)]) ∧ Sat w0 w' (Wr g (l ++ (bitsOf 3 2 ++ bitsOf (lz y) 5 ++ bitsOf (63 - lz y - tz y) 6 ++ bitsOf (y / 2 ^ tz y) (64 - lz y - tz y))) :: L) := by
  have h1 := (h.newBlk #[.int .i64 (wl x), .int .i64 (wt x)] 47).newBlk #[.int .i64 0, .int .i64 0] 47
  rw [alloc_size] at h1
  have H1 := Aside0.mk (show Sat w0 _ (Wr g l :: Blk (w.heap.size + 1) #[.int .i64 0, .int .i64 0] 47 :: Blk w.heap.size #[.int .i64 (wl x), .int .i64 (wt x)] 47 :: L) from h1.nth 2 rfl)
  have hab := lz_tz hy0 hy
  have HL := Aside0.mk hL
  have hsf := size_f hab
  obtain ⟨sz, hsz⟩ : ∃ sz : Nat, 64 - lz y - tz y = sz := ⟨_, rfl⟩
  have hs0 : 1 ≤ sz := by omega
  have hs1 : sz ≤ 64 := by omega
  rw [hsz] at hsf
  have HSZ := Aside0.mk hsf
  have HSE := Aside0.mk hsz
  have hlz := lz_le y
  have htz : tz y ≤ 63 := by omega
  have d0 : ((y : Int) == 0) = false := by rw [beq_eq_false_iff_ne]; omega
  have HW := Aside0.mk (fun (w' : World) (hL' : LaidW w') => within_calls (lz y) (tz y) x w' hL' rfl rfl)
  rw [hf] at HW
  have e1 : IntKind.u64.wrap (lz y : Int) = (lz y : Int) := by rw [IntKind.wrap_u64]; omega
  have e2 : IntKind.u64.wrap ((sz : Int) - 1) = (sz : Int) - 1 := by rw [IntKind.wrap_u64]; omega
  clear h1 h hL hf hsf hsz
  go_enter Tryd.func24, Tryd.ntmps24
  go_upto_region 1 with (fail)
  generalize hw1 : (w.alloc (.cells #[.int .i64 (wl x), .int .i64 (wt x)] 47)).alloc (.cells #[.int .i64 0, .int .i64 0] 47) = w1 at H1 ⊢
  clear hw1
  go_upto_region 5 with (first | (go_at_call 46; go_loud ((with_reducible refine (of_calls y hy hy0 _ (LaidW.below HL.out H1.out.below)).mono ?_); rintro e w2 ⟨rfl, hb2⟩; have H2 := Aside0.mk (H1.out.step hb2); clear hb2)))
  have H3 := Aside0.mk (H2.out.newBlk #[.int .i64 (lz y), .int .i64 (tz y)] 47)
  generalize w2.alloc (.cells #[.int .i64 (lz y), .int .i64 (tz y)] 47) = w3 at H3 ⊢
  generalize w2.heap.size = g7 at H3 ⊢
  have k0 := H3.out.cell 0 (v := .int .i64 (lz y)) rfl
  have k1 := H3.out.cell 1 (v := .int .i64 (tz y)) rfl
  have k2 := (H3.out.nth 3 rfl).cell 0 (v := .int .i64 (wl x)) rfl
  have k3 := (H3.out.nth 3 rfl).cell 1 (v := .int .i64 (wt x)) rfl
  have HW3 := Aside0.mk (HW.out w3 (LaidW.below HL.out H3.out.below))
  go_upto_region 8 with (first | (go_at_call 47; go_loud ((with_reducible refine (HW3.out).mono ?_); rintro e w4 ⟨rfl, hb4⟩; have H4 := Aside0.mk ((H3.out.nth 1 rfl).step hb4); clear hb4)) | (go_at_call 22; go_loud ((with_reducible refine (Put_at w0 w4 _ g l 3 2 3 2 rfl rfl (by omega) (by omega) hb H4.out).mono ?_); rintro e w5 ⟨rfl, hs⟩; have H5 : Aside0 (Sat w0 w5 (Wr g (l ++ bitsOf 3 2) :: Blk g7 #[.int .i64 (lz y), .int .i64 (tz y)] 47 :: Blk (w.heap.size + 1) #[.int .i64 0, .int .i64 0] 47 :: Blk w.heap.size #[.int .i64 (wl x), .int .i64 (wt x)] 47 :: L)) := ⟨hs⟩; clear hs)))
  clear k0 k1 k2 k3
  have k0 := (H5.out.nth 1 rfl).cell 0 (v := .int .i64 (lz y)) rfl
  obtain ⟨l3, hl3⟩ : ∃ l3, l ++ bitsOf 3 2 = l3 := ⟨_, rfl⟩
  rw [hl3] at H5
  have hq3 : l3.length ≤ 1099511627100 := by rw [← hl3, List.length_append, bitsOf_length]; omega
  have hb3 : IsBits l3 := by rw [← hl3]; exact hb.append (bitsOf_isBits _ _)
  have HE3 := Aside0.mk hl3
  clear hl3
  go_upto_region 9 with (first | (go_at_call 22; go_loud ((with_reducible refine (Put_at w0 w5 _ g l3 (lz y : Int) 5 (lz y) 5 rfl rfl (by omega) (by omega) hb3 H5.out).mono ?_); rintro e w6 ⟨rfl, hs⟩; have H6 : Aside0 (Sat w0 w6 (Wr g (l3 ++ bitsOf (lz y) 5) :: Blk g7 #[.int .i64 (lz y), .int .i64 (tz y)] 47 :: Blk (w.heap.size + 1) #[.int .i64 0, .int .i64 0] 47 :: Blk w.heap.size #[.int .i64 (wl x), .int .i64 (wt x)] 47 :: L)) := ⟨hs⟩; clear hs)))
  clear k0
  have k0 := (H6.out.nth 1 rfl).cell 0 (v := .int .i64 (lz y)) rfl
  have k1 := (H6.out.nth 1 rfl).cell 1 (v := .int .i64 (tz y)) rfl
  obtain ⟨l4, hl4⟩ : ∃ l4, l3 ++ bitsOf (lz y) 5 = l4 := ⟨_, rfl⟩
  rw [hl4] at H6
  have hq4 : l4.length ≤ 1099511627200 := by rw [← hl4, List.length_append, bitsOf_length]; omega
  have hb4 : IsBits l4 := by rw [← hl4]; exact hb3.append (bitsOf_isBits _ _)
  have HE4 := Aside0.mk hl4
  clear hl4
  go_upto_region 10 with (first | (go_at_call 48; go_loud ((with_reducible refine (tsz_window_size.calls (lz y : Int) (tz y : Int) _ _ HSZ.out).mono ?_); rintro e w7 ⟨rfl, hb7⟩; have H7 := Aside0.mk (H6.out.step hb7); clear hb7)) | (go_at_call 22; go_loud ((with_reducible refine (Put_at w0 w7 _ g l4 ((sz : Int) - 1) 6 (sz - 1) 6 (by omega) rfl (by omega) (by omega) hb4 H7.out).mono ?_); rintro e w8 ⟨rfl, hs⟩; have H8 : Aside0 (Sat w0 w8 (Wr g (l4 ++ bitsOf (sz - 1) 6) :: Blk g7 #[.int .i64 (lz y), .int .i64 (tz y)] 47 :: Blk (w.heap.size + 1) #[.int .i64 0, .int .i64 0] 47 :: Blk w.heap.size #[.int .i64 (wl x), .int .i64 (wt x)] 47 :: L)) := ⟨hs⟩; clear hs)))
  clear k0 k1
  have k0 := (H8.out.nth 1 rfl).cell 0 (v := .int .i64 (lz y)) rfl
  have k1 := (H8.out.nth 1 rfl).cell 1 (v := .int .i64 (tz y)) rfl
  obtain ⟨l1, hl1⟩ : ∃ l1, l4 ++ bitsOf (sz - 1) 6 = l1 := ⟨_, rfl⟩
  rw [hl1] at H8
  have hl1' : l1.length ≤ 1099511627300 := by rw [← hl1, List.length_append, bitsOf_length]; omega
  have hb1 : IsBits l1 := by rw [← hl1]; exact hb4.append (bitsOf_isBits _ _)
  have HE1 := Aside0.mk hl1
  clear hl1
  go_wp2_with (first | ((with_reducible refine gate_store (p := 5) rfl ?_); go_loud (refine wpList_store_row rfl 47 (.tmp 5) (.tmp 33) rfl w.heap.size #[.int .i64 (lz y), .int .i64 (tz y)] rfl rfl 47 _ (H8.out.nth 3 rfl).blk (by kernel_rfl) rfl (by simp [Value.oneCell']) ?_; have HY := Aside0.mk (Sat.setRow (H8.out.nth 3 rfl) #[.int .i64 (lz y), .int .i64 (tz y)]))))
  generalize w8.setRow w.heap.size #[.int .i64 (lz y), .int .i64 (tz y)] = w9 at HY ⊢
  have HD := Aside0.mk (show Sat w0 w9.drew (Wr g l1 :: Blk g7 #[.int .i64 (lz y), .int .i64 (tz y)] 47 :: Blk (w.heap.size + 1) #[.int .i64 0, .int .i64 0] 47 :: Blk w.heap.size #[.int .i64 (lz y), .int .i64 (tz y)] 47 :: L) from (((HY.out.nth 3 rfl).nth 3 rfl).nth 3 rfl).drew)
  have q0 := (HD.out.nth 3 rfl).cell 0 (v := .int .i64 (lz y)) rfl
  have q1 := (HD.out.nth 3 rfl).cell 1 (v := .int .i64 (tz y)) rfl
  have hsv := shr_value y (tz y) (by omega)
  have HSV := Aside0.mk (show (y : Int) / 2 ^ tz y = ((y / 2 ^ tz y : Nat) : Int) from by rw [Int.natCast_ediv, Int.natCast_pow]; rfl)
  have hyb : y / 2 ^ tz y < 18446744073709551616 := Nat.lt_of_le_of_lt (Nat.div_le_self _ _) hy
  have hl1 : l1.length ≤ 1099511627776 := by omega
  clear k0 k1 H1 H2 H3 H4 H5 H6 H7 H8 HY HW HW3 e1 e2
  refine start_ (n := 9) (S := fun w' => w'.cell? ⟨w.heap.size, 0, none⟩ = some (.int .i64 (lz y)) ∧ w'.cell? ⟨w.heap.size, 1, none⟩ = some (.int .i64 (tz y))) (ds := []) #[false, false, false, false, false, false, false, false, false] (by kernel_rfl) rfl rfl ⟨q0, q1⟩ (fun hHeld => ?_)
  refine with_tabW Pw.tab11 Pw.bits11 (fun HT_ HW_ => ?_)
  refine pure_ (i := 0) (N := some 34) (v := ?_) (a' := ?_) #[true, false, false, false, false, false, false, false, false] rfl rfl (any_of HT_.out (by kernel_rfl)) (fun _ _ _ h => h) (Or.inl ⟨by rfl, ?_⟩) ?_ ?_
  rotate_left
  · intro w'
    go_simp
    with_reducible rfl
  rotate_left
  · simp only [Act.put, List.setIfInBounds_toArray, List.set_cons_zero, List.set_cons_succ, i64_w, i32_w]
    rfl
  refine pure_ (i := 1) (N := some 35) (v := ?_) (a' := ?_) #[true, true, false, false, false, false, false, false, false] rfl rfl (any_of HT_.out (by kernel_rfl)) (fun _ _ _ h => h) (Or.inl ⟨by rfl, ?_⟩) ?_ ?_
  rotate_left
  · intro w'
    go_simp
    with_reducible rfl
  rotate_left
  · simp only [Act.put, List.setIfInBounds_toArray, List.set_cons_zero, List.set_cons_succ, i64_w, i32_w]
    rfl
  refine pure_ (i := 2) (N := some 36) (v := ?_) (a' := ?_) #[true, true, true, false, false, false, false, false, false] rfl rfl (any_of HT_.out (by kernel_rfl)) (fun _ _ _ h => h) (Or.inl ⟨by rfl, ?_⟩) ?_ ?_
  rotate_left
  · intro w'
    go_simp
    with_reducible rfl
  rotate_left
  · simp only [Act.put, List.setIfInBounds_toArray, List.set_cons_zero, List.set_cons_succ, i64_w, i32_w]
    rfl
  refine take_ (i := 3) (N := some 37) (v := ?_) (a' := ?_) #[true, true, true, true, false, false, false, false, false] rfl rfl (take_ofW HT_.out HW_.out (by kernel_rfl)) (fun _ _ _ h => h) (Or.inl ⟨by rfl, ?_⟩) hHeld ?_ ?_
  rotate_left
  · rintro w' ⟨s0, s1⟩
    go_simp
    with_reducible rfl
  rotate_left
  · simp only [Act.put, List.setIfInBounds_toArray, List.set_cons_zero, List.set_cons_succ, i64_w, i32_w]
    rfl
  refine take_ (i := 4) (N := some 38) (v := ?_) (a' := ?_) #[true, true, true, true, true, false, false, false, false] rfl rfl (take_ofW HT_.out HW_.out (by kernel_rfl)) (fun _ _ _ h => h) (Or.inl ⟨by rfl, ?_⟩) hHeld ?_ ?_
  rotate_left
  · rintro w' ⟨s0, s1⟩
    go_simp
    with_reducible rfl
  rotate_left
  · simp only [Act.put, List.setIfInBounds_toArray, List.set_cons_zero, List.set_cons_succ, i64_w, i32_w]
    rfl
  refine pure_ (i := 5) (N := some 39) (v := ?_) (a' := ?_) #[true, true, true, true, true, true, false, false, false] rfl rfl (any_of HT_.out (by kernel_rfl)) (fun _ _ _ h => h) (Or.inl ⟨by rfl, ?_⟩) ?_ ?_
  rotate_left
  · intro w'
    go_simp
    with_reducible rfl
  rotate_left
  · simp only [Act.put, List.setIfInBounds_toArray, List.set_cons_zero, List.set_cons_succ, i64_w, i32_w]
    rfl
  refine take_ (i := 6) (N := some 40) (v := ?_) (a' := ?_) #[true, true, true, true, true, true, true, false, false] rfl rfl (take_ofW HT_.out HW_.out (by kernel_rfl)) (fun _ _ _ h => h) (Or.inl ⟨by rfl, ?_⟩) hHeld ?_ ?_
  rotate_left
  · rintro w' ⟨s0, s1⟩
    go_simp
    with_reducible rfl
  rotate_left
  · simp only [Act.put, List.setIfInBounds_toArray, List.set_cons_zero, List.set_cons_succ, i64_w, i32_w]
    rfl
  refine one_ (i := 7) (N := some 41) #[true, true, true, true, true, true, true, true, false] rfl rfl (one_of HT_.out (by kernel_rfl)) (by decide) (fun K hK => ?_)
  refine goes_ Tryd.func48 (by kernel_rfl) rfl #[.agg #[.int .i64 (lz y), .int .i64 (tz y)]] (by rfl) rfl rfl (by simp only [List.map_toArray, List.map_cons, List.map_nil]; rfl) ?_
  with_reducible refine (tsz_window_size.calls (lz y : Int) (tz y : Int) _ _ HSZ.out).mono ?_
  rintro e w7 ⟨rfl, hb7⟩
  refine ⟨_, rfl, ?_⟩
  have HS7 := Aside0.mk (HD.out.step hb7)
  clear hb7
  have p0 := (HS7.out.nth 3 rfl).cell 0 (v := .int .i64 (lz y)) rfl
  have p1 := (HS7.out.nth 3 rfl).cell 1 (v := .int .i64 (tz y)) rfl
  refine hK.out _ _ ⟨p0, p1⟩ (fun hHeld => ?_)
  clear hK K
  refine norm_ (a' := ?_) ?_ ?_
  rotate_left
  · show Act.put _ (some 41) _ = _
    simp only [Act.put, List.setIfInBounds_toArray, List.set_cons_zero, List.set_cons_succ, i64_w, i32_w]
    rfl
  refine one_ (i := 8) (N := some 42) #[true, true, true, true, true, true, true, true, true] rfl rfl (one_of HT_.out (by kernel_rfl)) (by decide) (fun K hK => ?_)
  refine goes_ Tryd.func22 (by kernel_rfl) rfl #[.pointer (some ⟨g, 0, none⟩), .int .u64 ((y : Int) / 2 ^ (tz y)), .int .i64 (sz : Int)] (by rfl) rfl rfl (by simp only [List.map_toArray, List.map_cons, List.map_nil]; rfl) ?_
  with_reducible refine (Put_at w0 w7 _ g l1 _ _ (y / 2 ^ tz y) sz HSV.out (cutN_nat _ (by omega)) hyb hl1 hb1 HS7.out).mono ?_
  rintro e w8 ⟨rfl, hs8⟩
  refine ⟨_, rfl, ?_⟩
  have HS8 := Aside0.mk hs8
  clear hs8
  have r0 := (HS8.out.nth 3 rfl).cell 0 (v := .int .i64 (lz y)) rfl
  have r1 := (HS8.out.nth 3 rfl).cell 1 (v := .int .i64 (tz y)) rfl
  refine hK.out _ _ ⟨r0, r1⟩ (fun hHeld => ?_)
  clear hK K
  refine norm_ (a' := ?_) ?_ ?_
  rotate_left
  · show Act.put _ (some 42) _ = _
    simp only [Act.put, List.setIfInBounds_toArray, List.set_cons_zero, List.set_cons_succ, i64_w, i32_w]
    rfl
  refine done_ (done_of HT_.out (by kernel_rfl)) ?_
  go_wp2_with (first | ((with_reducible refine gate_store (p := 6) rfl ?_); go_loud (refine wpList_store_row rfl 47 (.tmp 6) (.tmp 43) rfl (w.heap.size + 1) #[.int .i64 (lz y), .int .i64 (tz y)] rfl rfl 47 _ (HS8.out.nth 2 rfl).blk (by kernel_rfl) rfl (by simp [Value.oneCell']) ?_; have HZ := Aside0.mk (Sat.setRow (HS8.out.nth 2 rfl) #[.int .i64 (lz y), .int .i64 (tz y)]))))
  refine bodyPost_ret (results_cell_row rfl _ _ (w.heap.size + 1) 47 #[.int .i64 (lz y), .int .i64 (tz y)] (0, 0) _ rfl HZ.out.blk Tryd.underlying47 rfl (by kernel_rfl)) rfl ?_
  have hz : Sat w0 _ (Wr g (l1 ++ bitsOf (y / 2 ^ tz y) sz) :: Blk g7 _ 47 :: Blk w.heap.size _ 47 :: L) := HZ.out.tail
  rw [← HE1.out, ← HE4.out, ← HE3.out, ← HSE.out, List.append_assoc, List.append_assoc, List.append_assoc, show 64 - lz y - tz y - 1 = 63 - lz y - tz y from by omega] at hz
  rw [List.append_assoc, List.append_assoc]
  exact ⟨rfl, ((hz.nth 1 rfl).tail.nth 1 rfl).tail⟩
theorem putValue_calls (w0 w : World) (L : List Asn) (g : Nat) (l : List Int) (y : Nat) (x : Win) (hy : y < 18446744073709551616) (hx : x.Ok) (hl : l.length ≤ 1099511627000) (hb : IsBits l) (hL : LaidW w0) (h : Sat w0 w (Wr g l :: L)) :
    Calls Tryd.prog 24 #[.pointer (some ⟨g, 0, none⟩), .int .u64 y, .agg #[.int .i64 (wl x), .int .i64 (wt x)]] w fun e w' => e = .returned (.agg #[.int .i64 (wl (valueB y x).2), .int .i64 (wt (valueB y x).2)]) ∧ Sat w0 w' (Wr g (l ++ (valueB y x).1) :: L) := by
  by_cases hy0 : y = 0
  · subst hy0
    have e : valueB 0 x = (bitsOf 0 1, x) := by unfold valueB; rw [if_pos rfl]
    rw [e]
    exact putValue_zero w0 w L g l x (by omega) hb h
  · by_cases hf : fits y x = true
    · have e : valueB y x = (bitsOf 2 2 ++ bitsOf (y / 2 ^ (wt x).toNat) (64 - (wl x).toNat - (wt x).toNat), x) := by unfold valueB; rw [if_neg hy0, if_pos hf]
      rw [e]
      cases x with
      | none => simp [fits] at hf
      | some p =>
        obtain ⟨a, b⟩ := p
        exact putValue_fits w0 w L g l y a b hy hy0 hf (hx _ rfl).2 hl hb hL h
    · have e : valueB y x = (bitsOf 3 2 ++ bitsOf (lz y) 5 ++ bitsOf (63 - lz y - tz y) 6 ++ bitsOf (y / 2 ^ tz y) (64 - lz y - tz y), some (lz y, tz y)) := by unfold valueB; rw [if_neg hy0, if_neg hf]
      rw [e]
      exact putValue_wide w0 w L g l y x hy hy0 (by simpa using hf) hl hb hL h
def formsL : List S88 := [⟨2, 2, 63, 7⟩, ⟨6, 3, 255, 9⟩, ⟨14, 4, 2047, 12⟩]
def before (k : Nat) (x : Int) : Prop := x ≠ 0 ∧ (0 < k → ¬ (-63 ≤ x ∧ x ≤ 64)) ∧ (1 < k → ¬ (-255 ≤ x ∧ x ≤ 256)) ∧ (2 < k → ¬ (-2047 ≤ x ∧ x ≤ 2048))
theorem form_at (k : Nat) (hk : k < 3) : ∃ h n lo z : Nat, rd_T88 formsL (k : Int) = ⟨(h : Int), (n : Int), (lo : Int), (z : Int)⟩ ∧ h < 16 ∧ n ≤ 4 ∧ lo ≤ 2047 ∧ z ≤ 12 ∧
    (∀ x, before k x → -(lo : Int) ≤ x ∧ x ≤ (lo : Int) + 1 → timeB x = bitsOf h n ++ bitsOf (x + lo).toNat z) ∧ (∀ x, before k x → ¬ (-(lo : Int) ≤ x ∧ x ≤ (lo : Int) + 1) → before (k + 1) x) := by
  rcases k with _ | _ | _ | k
  · refine ⟨2, 2, 63, 7, rfl, by omega, by omega, by omega, by omega, fun x hb hf => ?_, fun x hb hf => ?_⟩
    · unfold timeB
      rw [if_neg hb.1, if_pos (by omega)]
      rfl
    · unfold before at hb ⊢
      omega
  · refine ⟨6, 3, 255, 9, rfl, by omega, by omega, by omega, by omega, fun x hb hf => ?_, fun x hb hf => ?_⟩
    · unfold timeB
      have := hb.2.1 (by omega)
      rw [if_neg hb.1, if_neg (by omega), if_pos (by omega)]
      rfl
    · unfold before at hb ⊢
      omega
  · refine ⟨14, 4, 2047, 12, rfl, by omega, by omega, by omega, by omega, fun x hb hf => ?_, fun x hb hf => ?_⟩
    · unfold timeB
      have := hb.2.1 (by omega)
      have := hb.2.2.1 (by omega)
      rw [if_neg hb.1, if_neg (by omega), if_neg (by omega), if_pos (by omega)]
      rfl
    · unfold before at hb ⊢
      omega
  · omega
theorem timeB_wide {x : Int} (h : before 3 x) : timeB x = bitsOf 15 4 ++ bitsOf (x % 18446744073709551616).toNat 64 := by
  unfold before at h
  unfold timeB
  rw [if_neg (by omega), if_neg (by omega), if_neg (by omega), if_neg (by omega)]
set_option maxHeartbeats 4000000 in
set_option maxRecDepth 100000 in
theorem putTime_calls (w0 w : World) (L : List Asn) (g : Nat) (l : List Int) (x : Int) (hx0 : -9223372036854775808 ≤ x) (hx1 : x < 9223372036854775808) (hl : l.length ≤ 1099511627000) (hb : IsBits l) (h : Sat w0 w (Wr g l :: L)) :
    Calls Tryd.prog 23 #[.pointer (some ⟨g, 0, none⟩), .int .i64 x] w fun e w' => e = .returned (.tuple #[]) ∧ Sat w0 w' (Wr g (l ++ timeB x) :: L) := by
  have HS := Aside0.mk h
  clear h
  by_cases hz : x = 0
  · subst hz
    have HT := Aside0.mk (show timeB 0 = bitsOf 0 1 from rfl)
    go_enter Tryd.func23, Tryd.ntmps23
    go_wp2_with (first | (go_at_call 22; go_loud ((with_reducible refine (Put_at w0 w _ g l 0 1 0 1 rfl rfl (by omega) (by omega) hb HS.out).mono ?_); rintro e w1 ⟨rfl, hs⟩; have H1 := Aside0.mk hs; clear hs)))
    refine bodyPost_ret (results_none rfl _ _ _) rfl ?_
    exact ⟨rfl, by rw [HT.out]; exact H1.out⟩
  have dz : (x == 0) = false := by rw [beq_eq_false_iff_ne]; exact hz
  have HX0 := Aside0.mk hz
  clear hz
  go_enter Tryd.func23, Tryd.ntmps23
  go_wp2_with (first | (go_at_call 45; go_loud ((with_reducible refine (tsz_forms.calls formsL w rfl).mono ?_); rintro e w1 ⟨v0, rfl, hr, hb1⟩; have hs1 := HS.out.made hb1 hr; obtain ⟨A1, c1, hv1, _, _⟩ := hs1.rowSlice; subst hv1; have HS1 := Aside0.mk hs1; clear hs1 hr hb1)))
  go_loopw [12] (fun v12 wr => ∃ k : Nat, k ≤ 3 ∧ v12 = .int .i64 k ∧ Aside0 (Sat w0 wr (Wr g l :: Row k88 88 (.slice A1 formsL.length c1) formsL :: L)) ∧ Aside0 (before k x)) (fun v12 _ => 3 - (intOf v12).toNat)
  case atStart => exact ⟨0, by omega, rfl, ⟨HS1.out.nth 1 rfl⟩, ⟨⟨HX0.out, by omega, by omega, by omega⟩⟩⟩
  case round =>
    obtain ⟨k, hk, rfl, HR, HB⟩ := hrel
    clear HS HS1
    have hfl : formsL.length = 3 := rfl
    by_cases hlt : k < 3
    · have d1 : decide ((k : Int) < (formsL.length : Int)) = true := decide_eq_true (by rw [hfl]; omega)
      have d2 : decide (k < formsL.length) = true := decide_eq_true (by rw [hfl]; omega)
      obtain ⟨h, n, lo, z, hrd, hh, hn, hlo, hzz, hfit, hnot⟩ := form_at k hlt
      obtain ⟨ad, rfl, c0, c1_, c2, c3⟩ := at_T88 (show Kd.C k88 wr A1 formsL.length formsL from (HR.out.nth 1 rfl).rowC) (k : Int) (by omega) (by rw [hfl]; omega)
      rw [hrd] at c0 c1_ c2 c3
      simp only [Int.toNat_natCast] at c0 c1_ c2 c3
      have HNB := Aside0.mk (HR.out.newBlk #[.int .u64 h, .int .i64 n, .int .i64 lo, .int .i64 z] 88)
      have hk0 : (0 : Int) ≤ (k : Int) := by omega
      have hk1 : (k : Int) < (formsL.length : Int) := by rw [hfl]; omega
      have hk2 : k < formsL.length := by rw [hfl]; omega
      have HNT := Aside0.mk (hnot x HB.out)
      have HFT := Aside0.mk (hfit x HB.out)
      have HR2 := HR
      clear hrd hfit hnot hfl HR
      go_upto_region 5 with (fail)
      generalize hwn : wr.alloc (.cells #[.int .u64 h, .int .i64 n, .int .i64 lo, .int .i64 z] 88) = w3 at HNB ⊢
      generalize wr.heap.size = g5 at HNB ⊢
      clear hwn c0 c1_ c2 c3 d1 d2 hk0 hk1 hk2
      have k0 := HNB.out.cell 0 (v := .int .u64 h) rfl
      have k1 := HNB.out.cell 1 (v := .int .i64 n) rfl
      have k2 := HNB.out.cell 2 (v := .int .i64 lo) rfl
      have k3 := HNB.out.cell 3 (v := .int .i64 z) rfl
      by_cases hfit : -(lo : Int) ≤ x ∧ x ≤ (lo : Int) + 1
      · have HTB := Aside0.mk (HFT.out hfit)
        obtain ⟨f1, f2⟩ := hfit
        have d1 : decide (-(lo : Int) ≤ x) = true := decide_eq_true f1
        have d2 : decide (x ≤ (lo : Int) + 1) = true := decide_eq_true f2
        have hxe : x + (lo : Int) = (((x + (lo : Int)).toNat : Nat) : Int) := by omega
        have hxb : (x + (lo : Int)).toNat < 18446744073709551616 := by omega
        have HXE := Aside0.mk hxe
        have hwx : IntKind.u64.wrap (x + (lo : Int)) = x + (lo : Int) := by rw [IntKind.wrap_u64]; omega
        have hcn : cutN (n : Int) = n := cutN_nat n (by omega)
        have hcz : cutN (z : Int) = z := cutN_nat z (by omega)
        have HCN := Aside0.mk hcn
        have HCZ := Aside0.mk hcz
        clear hxe hcn hcz HNT HFT
        go_upto_region 7 with (first | (go_at_call 22; go_loud ((with_reducible refine (Put_at w0 w3 _ g l (h : Int) (n : Int) h n rfl HCN.out (by omega) (by omega) hb (HNB.out.nth 1 rfl)).mono ?_); rintro e w4 ⟨rfl, hs⟩; have H4 : Aside0 (Sat w0 w4 (Wr g (l ++ bitsOf h n) :: Blk g5 #[.int .u64 h, .int .i64 n, .int .i64 lo, .int .i64 z] 88 :: Row k88 88 (.slice (some ad) formsL.length c1) formsL :: L)) := ⟨hs⟩; clear hs)))
        clear k0 k1 k2 k3
        have k2 := (H4.out.nth 1 rfl).cell 2 (v := .int .i64 lo) rfl
        have k3 := (H4.out.nth 1 rfl).cell 3 (v := .int .i64 z) rfl
        have hq : (l ++ bitsOf h n).length ≤ 1099511627776 := by rw [List.length_append, bitsOf_length]; omega
        have hqb : IsBits (l ++ bitsOf h n) := hb.append (bitsOf_isBits _ _)
        go_wp2_with (first | (go_at_call 22; go_loud ((with_reducible refine (Put_at w0 w4 _ g (l ++ bitsOf h n) (x + (lo : Int)) (z : Int) (x + (lo : Int)).toNat z HXE.out HCZ.out hxb hq hqb H4.out).mono ?_); rintro e w5 ⟨rfl, hs⟩; have H5 : Aside0 (Sat w0 w5 (Wr g (l ++ bitsOf h n ++ bitsOf (x + (lo : Int)).toNat z) :: Blk g5 #[.int .u64 h, .int .i64 n, .int .i64 lo, .int .i64 z] 88 :: Row k88 88 (.slice (some ad) formsL.length c1) formsL :: L)) := ⟨hs⟩; clear hs)))
        refine bodyPost_ret (results_none rfl _ _ _) rfl ?_
        refine ⟨rfl, ?_⟩
        rw [HTB.out, ← List.append_assoc]
        exact ((H5.out.nth 1 rfl).tail.nth 1 rfl).tail
      · have HBN := Aside0.mk (HNT.out hfit)
        clear HNT HFT
        by_cases f1 : -(lo : Int) ≤ x
        · have d1 : decide (-(lo : Int) ≤ x) = true := decide_eq_true f1
          have f2 : ¬ x ≤ (lo : Int) + 1 := fun h => hfit ⟨f1, h⟩
          have d2 : decide (x ≤ (lo : Int) + 1) = false := decide_eq_false f2
          clear hfit
          go_wp2
          go_roundw
          case measure => simp [intOf]; omega
          case rel => exact ⟨k + 1, by omega, by go_num, ⟨HNB.out.tail⟩, HBN⟩
        · have d1 : decide (-(lo : Int) ≤ x) = false := decide_eq_false f1
          clear hfit
          go_wp2
          go_roundw
          case measure => simp [intOf]; omega
          case rel => exact ⟨k + 1, by omega, by go_num, ⟨HNB.out.tail⟩, HBN⟩
    · have d1 : decide ((k : Int) < (formsL.length : Int)) = false := decide_eq_false (by rw [hfl]; omega)
      have d2 : decide (k < formsL.length) = false := decide_eq_false (by rw [hfl]; omega)
      obtain rfl : k = 3 := by omega
      have HT := Aside0.mk (timeB_wide HB.out)
      have hxe : IntKind.u64.wrap x = (((x % 18446744073709551616).toNat : Nat) : Int) := by rw [IntKind.wrap_u64]; omega
      have hxb : (x % 18446744073709551616).toNat < 18446744073709551616 := by omega
      have HXE := Aside0.mk hxe
      have hq : (l ++ bitsOf 15 4).length ≤ 1099511627776 := by rw [List.length_append, bitsOf_length]; omega
      have hqb : IsBits (l ++ bitsOf 15 4) := hb.append (bitsOf_isBits _ _)
      clear hxe hfl
      go_upto_region 10 with (first | (go_at_call 22; go_loud ((with_reducible refine (Put_at w0 wr _ g l 15 4 15 4 rfl rfl (by omega) (by omega) hb HR.out).mono ?_); rintro e w4 ⟨rfl, hs⟩; have H4 := Aside0.mk hs; clear hs)))
      go_wp2_with (first | (go_at_call 22; go_loud ((with_reducible refine (Put_at w0 w4 _ g (l ++ bitsOf 15 4) (IntKind.u64.wrap x) 64 (x % 18446744073709551616).toNat 64 HXE.out rfl hxb hq hqb H4.out).mono ?_); rintro e w5 ⟨rfl, hs⟩; have H5 := Aside0.mk hs; clear hs)))
      go_end0
      refine ⟨rfl, ?_⟩
      rw [HT.out, ← List.append_assoc]
      exact ((show Sat w0 _ (Wr g (l ++ bitsOf 15 4 ++ bitsOf (x % 18446744073709551616).toNat 64) :: Row k88 88 _ formsL :: L) from H5.out).nth 1 rfl).tail
end Go.Proofs.YtmnlbedgkjnodaaDoor.TzW
namespace Go.Proofs.YtmnlbedgkjnodaaDoor.TeP
open Go.RowKit Go.Proofs.YtmnlbedgkjnodaaDoorW.PrintWords Go.Proofs.YtmnlbedgkjnodaaDoorW.PrintLast Go.Proofs.YtmnlbedgkjnodaaDoorW.PrintMore Go.Proofs.YtmnlbedgkjnodaaDoor.QB Go.Proofs.YtmnlbedgkjnodaaDoor.Bt Go.Proofs.YtmnlbedgkjnodaaDoor.TzP Go.Proofs.YtmnlbedgkjnodaaDoor.Uv
abbrev Pt := S33
def okPt (p : Pt) : Prop := (-9223372036854775808 ≤ p.f0 ∧ p.f0 < 9223372036854775808) ∧ (0 ≤ p.f1 ∧ p.f1 < 18446744073709551616) ∧ (0 ≤ p.f2 ∧ p.f2 < 18446744073709551616)
instance (p : Pt) : Decidable (okPt p) := by unfold okPt; infer_instance
def OkL (l : List Pt) : Prop := ∀ p ∈ l, okPt p
def chk : Int → List Pt → Int
  | _, [] => 0
  | last, p :: t => if p.f0 < 0 ∨ 1099511627776 < p.f0 then 1 else if p.f0 ≤ last then 51 else chk p.f0 t
def checkF (l : List Pt) : Int := if 512 < l.length then 52 else chk (-1) l
theorem chk_zero : ∀ (l : List Pt) (a : Int), chk a l = 0 → (∀ i (h : i < l.length), 0 ≤ l[i].f0 ∧ l[i].f0 ≤ 1099511627776 ∧ a < l[i].f0) ∧ ∀ i (h : i + 1 < l.length), l[i].f0 < l[i + 1].f0
  | [], _, _ => ⟨fun i h => by simp at h, fun i h => by simp at h⟩
  | p :: t, a, h => by
    unfold chk at h
    split at h
    · cases h
    · split at h
      · cases h
      · rename_i h1 h2
        obtain ⟨h3, h4⟩ := chk_zero t p.f0 h
        refine ⟨fun i hi => ?_, fun i hi => ?_⟩
        · cases i with
          | zero => simp only [List.getElem_cons_zero]; omega
          | succ i =>
            have := h3 i (by simpa using hi)
            simp only [List.getElem_cons_succ]
            omega
        · cases i with
          | zero =>
            have := h3 0 (by simpa using hi)
            simp only [List.getElem_cons_zero, List.getElem_cons_succ]
            omega
          | succ i =>
            have := h4 i (by simpa using hi)
            simpa using this
theorem checkF_zero {l : List Pt} (h : checkF l = 0) : l.length ≤ 512 ∧ (∀ i (h : i < l.length), 0 ≤ l[i].f0 ∧ l[i].f0 ≤ 1099511627776) ∧ ∀ i (h : i + 1 < l.length), l[i].f0 < l[i + 1].f0 := by
  unfold checkF at h
  split at h
  · cases h
  · rename_i h1
    obtain ⟨h2, h3⟩ := chk_zero l (-1) h
    exact ⟨by omega, fun i hi => ⟨(h2 i hi).1, (h2 i hi).2.1⟩, h3⟩
abbrev St := Int × Win × Win
def st0 : St := (0, none, none)
def zp : Pt := ⟨0, 0, 0⟩
def step (q p : Pt) (s : St) : List Int × St :=
  let v := valueB (p.f1.toNat ^^^ q.f1.toNat) s.2.1
  let u := valueB (p.f2.toNat ^^^ q.f2.toNat) s.2.2
  (timeB (p.f0 - q.f0 - s.1) ++ v.1 ++ u.1, (p.f0 - q.f0, v.2, u.2))
def first (p : Pt) : List Int := bitsOf p.f0.toNat 64 ++ bitsOf p.f1.toNat 64 ++ bitsOf p.f2.toNat 64
def goB (l : List Pt) : Nat → List Int × St
  | 0 => ([], st0)
  | i + 1 => if i = 0 then (first (l.getD 0 zp), st0) else
      let r := goB l i
      let s := step (l.getD (i - 1) zp) (l.getD i zp) r.2
      (r.1 ++ s.1, s.2)
def bitsT (l : List Pt) : List Int := (goB l l.length).1
theorem goB_one (l : List Pt) : goB l 1 = (first (l.getD 0 zp), st0) := by rw [goB, if_pos rfl]
theorem goB_succ (l : List Pt) (j : Nat) : goB l (j + 2) = ((goB l (j + 1)).1 ++ (step (l.getD j zp) (l.getD (j + 1) zp) (goB l (j + 1)).2).1, (step (l.getD j zp) (l.getD (j + 1) zp) (goB l (j + 1)).2).2) := by
  rw [show j + 2 = (j + 1) + 1 from rfl, goB, if_neg (by omega)]
  simp
theorem step_isBits (q p : Pt) (s : St) : IsBits (step q p s).1 := ((timeB_isBits _).append (valueB_isBits _ _)).append (valueB_isBits _ _)
theorem step_length (q p : Pt) (s : St) : 3 ≤ (step q p s).1.length ∧ (step q p s).1.length ≤ 222 := by
  have h1 := timeB_length (p.f0 - q.f0 - s.1)
  have h2 := valueB_length (p.f1.toNat ^^^ q.f1.toNat) s.2.1
  have h3 := valueB_length (p.f2.toNat ^^^ q.f2.toNat) s.2.2
  show 3 ≤ (timeB _ ++ (valueB _ _).1 ++ (valueB _ _).1).length ∧ (timeB _ ++ (valueB _ _).1 ++ (valueB _ _).1).length ≤ 222
  rw [List.length_append, List.length_append]
  omega
theorem first_isBits (p : Pt) : IsBits (first p) := ((bitsOf_isBits _ _).append (bitsOf_isBits _ _)).append (bitsOf_isBits _ _)
theorem first_length (p : Pt) : (first p).length = 192 := by unfold first; simp [bitsOf_length]
theorem goB_isBits (l : List Pt) : ∀ i, IsBits (goB l i).1
  | 0 => fun x hx => by simp [goB] at hx
  | 1 => by rw [goB_one]; exact first_isBits _
  | j + 2 => by rw [goB_succ]; exact (goB_isBits l (j + 1)).append (step_isBits _ _ _)
theorem goB_length (l : List Pt) : ∀ i, (goB l i).1.length ≤ 222 * i
  | 0 => by simp [goB]
  | 1 => by rw [goB_one]; simp [first_length]
  | j + 2 => by
    rw [goB_succ]
    have h1 := goB_length l (j + 1)
    have h2 := (step_length (l.getD j zp) (l.getD (j + 1) zp) (goB l (j + 1)).2).2
    simp only [List.length_append]
    omega
theorem getD_ok {l : List Pt} (h : OkL l) (i : Nat) : okPt (l.getD i zp) := by
  rw [List.getD_eq_getElem?_getD]
  by_cases hi : i < l.length
  · rw [List.getElem?_eq_getElem hi]
    exact h _ (List.getElem_mem hi)
  · rw [List.getElem?_eq_none (by omega)]
    exact ⟨by decide, by decide, by decide⟩
theorem xor_lt {a b : Int} (ha : 0 ≤ a ∧ a < 18446744073709551616) (hb : 0 ≤ b ∧ b < 18446744073709551616) : a.toNat ^^^ b.toNat < 18446744073709551616 :=
  Nat.xor_lt_two_pow (n := 64) (by omega) (by omega)
theorem goB_ok {l : List Pt} (h : OkL l) : ∀ i, (goB l i).2.2.1.Ok ∧ (goB l i).2.2.2.Ok
  | 0 => ⟨Win.ok_none, Win.ok_none⟩
  | 1 => by rw [goB_one]; exact ⟨Win.ok_none, Win.ok_none⟩
  | j + 2 => by
    rw [goB_succ]
    obtain ⟨h1, h2⟩ := goB_ok h (j + 1)
    have a := getD_ok h j
    have b := getD_ok h (j + 1)
    exact ⟨valueB_ok (xor_lt b.2.1 a.2.1) h1, valueB_ok (xor_lt b.2.2 a.2.2) h2⟩
theorem goB_dist {l : List Pt} (h : checkF l = 0) : ∀ i, i ≤ l.length → -1099511627776 ≤ (goB l i).2.1 ∧ (goB l i).2.1 ≤ 1099511627776
  | 0, _ => by simp [goB, st0]
  | 1, _ => by rw [goB_one]; simp [st0]
  | j + 2, hi => by
    rw [goB_succ]
    obtain ⟨_, h2, _⟩ := checkF_zero h
    have a := h2 j (by omega)
    have b := h2 (j + 1) (by omega)
    show -1099511627776 ≤ (l.getD (j + 1) zp).f0 - (l.getD j zp).f0 ∧ _ ≤ _
    rw [List.getD_eq_getElem?_getD, List.getElem?_eq_getElem (by omega), List.getD_eq_getElem?_getD, List.getElem?_eq_getElem (by omega)]
    simp only [Option.getD_some]
    show -1099511627776 ≤ l[j + 1].f0 - l[j].f0 ∧ l[j + 1].f0 - l[j].f0 ≤ 1099511627776
    omega
def encB (l : List Pt) : List Int := uv l.length ++ pk (bitsT l)
def encT (l : List Pt) : List Int × Int := if checkF l = 0 then (encB l, 0) else ([], checkF l)
end Go.Proofs.YtmnlbedgkjnodaaDoor.TeP
