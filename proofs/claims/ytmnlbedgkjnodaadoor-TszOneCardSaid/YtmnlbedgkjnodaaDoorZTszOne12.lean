/- The document's reader of points, in plain words, and what its calls come to.
   What the call of the codec's decoder's value comes to.
   The document's reader's value: in plain words, and what its call comes to. -/
import Derived.Test.YtmnlbedgkjnodaaDoorZTszOne11
set_option linter.unusedSimpArgs false
set_option linter.unusedVariables false
namespace Go.Proofs.YtmnlbedgkjnodaaDoor.RfW
open Go.RowKit Go.Proofs.YtmnlbedgkjnodaaDoorW.PrintWords Go.Proofs.YtmnlbedgkjnodaaDoorW.PrintLast Go.Proofs.YtmnlbedgkjnodaaDoorW.PrintMore Go.Proofs.YtmnlbedgkjnodaaDoor.QB Go.Proofs.YtmnlbedgkjnodaaDoor.Sl Go.Proofs.YtmnlbedgkjnodaaDoor.Bt Go.Proofs.YtmnlbedgkjnodaaDoor.BtR Go.Proofs.YtmnlbedgkjnodaaDoor.WrW Go.Proofs.YtmnlbedgkjnodaaDoor.RdW Go.Proofs.YtmnlbedgkjnodaaDoor.TzP Go.Proofs.YtmnlbedgkjnodaaDoor.TeP Go.Proofs.YtmnlbedgkjnodaaDoor.TdP
abbrev RS := List Int × Bool
def FineS (s : RS) : Prop := IsBits s.1 ∧ s.1.length ≤ 8000000
def getR (s : RS) (n : Int) : Nat × RS := if n.toNat ≤ s.1.length then (num (s.1.take n.toNat), (s.1.drop n.toNat, s.2)) else (0, (s.1, true))
theorem getR_fine {s : RS} (h : FineS s) (n : Int) : FineS (getR s n).2 := by
  unfold getR
  split
  · exact ⟨h.1.drop _, by have := h.2; simp only [List.length_drop]; omega⟩
  · exact h
theorem getR_lt {s : RS} (h : FineS s) (n : Int) : (getR s n).1 < 2 ^ n.toNat := by
  unfold getR
  split
  · rename_i hle
    have := num_lt (h.1.take n.toNat)
    rwa [List.length_take, Nat.min_eq_left hle] at this
  · exact Nat.pow_pos (by omega)
theorem get_eq {w0 w : World} {L : List Asn} {g : Nat} {s s' : RS} {n : Int} {x : Nat} (hr : getR s n = (x, s')) (hn0 : 0 ≤ n) (hn : n ≤ 64) (hf : FineS s) (h : Sat w0 w (Rb g s.1 s.2 :: L)) :
    Calls Tryd.prog 41 #[.pointer (some ⟨g, 0, none⟩), .int .i64 n] w fun e w' => e = .returned (.int .u64 (x : Int)) ∧ Sat w0 w' (Rb g s'.1 s'.2 :: L) := by
  obtain ⟨m, rfl⟩ : ∃ m : Nat, n = (m : Int) := ⟨n.toNat, by omega⟩
  have h1 := get_raw w0 w L g s.1 s.2 m (by omega) hf.1 hf.2 h
  unfold getR at hr
  rw [Int.toNat_natCast] at hr
  split at hr
  · rename_i hle
    rw [if_pos hle, if_pos hle, if_pos hle] at h1
    cases hr
    exact h1
  · rename_i hle
    rw [if_neg hle, if_neg hle, if_neg hle] at h1
    cases hr
    exact h1
def timeR (s : RS) : Int × RS :=
  if (getR s 1).1 = 0 then (0, (getR s 1).2) else
  if (getR (getR s 1).2 1).1 = 0 then (((getR (getR (getR s 1).2 1).2 7).1 : Int) - 63, (getR (getR (getR s 1).2 1).2 7).2) else
  if (getR (getR (getR s 1).2 1).2 1).1 = 0 then (((getR (getR (getR (getR s 1).2 1).2 1).2 9).1 : Int) - 255, (getR (getR (getR (getR s 1).2 1).2 1).2 9).2) else
  if (getR (getR (getR (getR s 1).2 1).2 1).2 1).1 = 0 then (((getR (getR (getR (getR (getR s 1).2 1).2 1).2 1).2 12).1 : Int) - 2047, (getR (getR (getR (getR (getR s 1).2 1).2 1).2 1).2 12).2) else
  (wrap64 ((getR (getR (getR (getR (getR s 1).2 1).2 1).2 1).2 64).1 : Int), (getR (getR (getR (getR (getR s 1).2 1).2 1).2 1).2 64).2)
theorem getR_named (s : RS) (n : Int) : ∃ x s', getR s n = (x, s') := ⟨_, _, rfl⟩
set_option maxHeartbeats 4000000 in
set_option maxRecDepth 20000 in
theorem time_calls (w0 w : World) (L : List Asn) (g : Nat) (s : RS) (hf : FineS s) (h : Sat w0 w (Rb g s.1 s.2 :: L)) :
    Calls Tryd.prog 42 #[.pointer (some ⟨g, 0, none⟩)] w fun e w' => e = .returned (.int .i64 (timeR s).1) ∧ Sat w0 w' (Rb g (timeR s).2.1 (timeR s).2.2 :: L) := by
  obtain ⟨x1, s1, h1⟩ := getR_named s 1
  obtain ⟨x2, s2, h2⟩ := getR_named s1 1
  obtain ⟨x3, s3, h3⟩ := getR_named s2 1
  obtain ⟨x4, s4, h4⟩ := getR_named s3 1
  obtain ⟨y7, t7, h7⟩ := getR_named s2 7
  obtain ⟨y9, t9, h9⟩ := getR_named s3 9
  obtain ⟨y12, t12, h12⟩ := getR_named s4 12
  obtain ⟨y64, t64, h64⟩ := getR_named s4 64
  have f1 := getR_fine hf 1
  rw [h1] at f1
  have f2 := getR_fine f1 1
  rw [h2] at f2
  have f3 := getR_fine f2 1
  rw [h3] at f3
  have f4 := getR_fine f3 1
  rw [h4] at f4
  have l7 := getR_lt f2 7
  have l9 := getR_lt f3 9
  have l12 := getR_lt f4 12
  have l64 := getR_lt f4 64
  rw [h7] at l7
  rw [h9] at l9
  rw [h12] at l12
  rw [h64] at l64
  simp only at f1 f2 f3 f4 l7 l9 l12 l64
  have l7' : y7 < 128 := l7
  have l9' : y9 < 512 := l9
  have l12' : y12 < 4096 := l12
  have HT := Aside0.mk (show timeR s = if x1 = 0 then (0, s1) else if x2 = 0 then ((y7 : Int) - 63, t7) else if x3 = 0 then ((y9 : Int) - 255, t9) else if x4 = 0 then ((y12 : Int) - 2047, t12) else (wrap64 (y64 : Int), t64) by
    unfold timeR
    simp only [h1, h2, h3, h4, h7, h9, h12, h64])
  have a1 : IntKind.i64.wrap (y7 : Int) = (y7 : Int) := by rw [IntKind.wrap_i64]; omega
  have b1 : IntKind.i64.wrap ((y7 : Int) - 63) = (y7 : Int) - 63 := by rw [IntKind.wrap_i64]; omega
  have a2 : IntKind.i64.wrap (y9 : Int) = (y9 : Int) := by rw [IntKind.wrap_i64]; omega
  have b2 : IntKind.i64.wrap ((y9 : Int) - 255) = (y9 : Int) - 255 := by rw [IntKind.wrap_i64]; omega
  have a3 : IntKind.i64.wrap (y12 : Int) = (y12 : Int) := by rw [IntKind.wrap_i64]; omega
  have b3 : IntKind.i64.wrap ((y12 : Int) - 2047) = (y12 : Int) - 2047 := by rw [IntKind.wrap_i64]; omega
  have a4 : IntKind.i64.wrap (y64 : Int) = wrap64 (y64 : Int) := by
    generalize (y64 : Int) = z
    rw [IntKind.wrap_i64]
    unfold wrap64
    omega
  have F0 := Aside0.mk hf
  have F1 := Aside0.mk f1
  have F2 := Aside0.mk f2
  have F3 := Aside0.mk f3
  have F4 := Aside0.mk f4
  have R1 := Aside0.mk h1
  have R2 := Aside0.mk h2
  have R3 := Aside0.mk h3
  have R4 := Aside0.mk h4
  have R7 := Aside0.mk h7
  have R9 := Aside0.mk h9
  have R12 := Aside0.mk h12
  have R64 := Aside0.mk h64
  have H := Aside0.mk h
  clear hf f1 f2 f3 f4 h1 h2 h3 h4 h7 h9 h12 h64 h l7 l9 l12 l64 l7' l9' l12'
  by_cases qx1 : x1 = 0
  · have px1 : ((x1 : Int) == 0) = true := by rw [beq_iff_eq]; omega
    have Q := Aside0.mk qx1
    clear qx1
    go_enter Tryd.func42, Tryd.ntmps42
    go_wp2_with (first | (go_at_call 41; go_loud ((first | (with_reducible refine (get_eq R1.out (by omega) (by omega) F0.out H.out).mono ?_)); rintro e w1 ⟨rfl, hs⟩; clear H; have H := Aside0.mk hs; clear hs)))
    go_ret
    rw [HT.out, if_pos Q.out]
    exact ⟨rfl, H.out⟩
  · have px1 : ((x1 : Int) == 0) = false := by rw [beq_eq_false_iff_ne]; omega
    have Nx1 := Aside0.mk qx1
    clear qx1
    by_cases qx2 : x2 = 0
    · have px2 : ((x2 : Int) == 0) = true := by rw [beq_iff_eq]; omega
      have Q := Aside0.mk qx2
      clear qx2
      go_enter Tryd.func42, Tryd.ntmps42
      go_wp2_with (first | (go_at_call 41; go_loud ((first | (with_reducible refine (get_eq R1.out (by omega) (by omega) F0.out H.out).mono ?_) | (with_reducible refine (get_eq R2.out (by omega) (by omega) F1.out H.out).mono ?_) | (with_reducible refine (get_eq R7.out (by omega) (by omega) F2.out H.out).mono ?_)); rintro e w1 ⟨rfl, hs⟩; clear H; have H := Aside0.mk hs; clear hs)))
      go_ret
      rw [HT.out, if_neg Nx1.out, if_pos Q.out]
      exact ⟨rfl, H.out⟩
    · have px2 : ((x2 : Int) == 0) = false := by rw [beq_eq_false_iff_ne]; omega
      have Nx2 := Aside0.mk qx2
      clear qx2
      by_cases qx3 : x3 = 0
      · have px3 : ((x3 : Int) == 0) = true := by rw [beq_iff_eq]; omega
        have Q := Aside0.mk qx3
        clear qx3
        go_enter Tryd.func42, Tryd.ntmps42
        go_wp2_with (first | (go_at_call 41; go_loud ((first | (with_reducible refine (get_eq R1.out (by omega) (by omega) F0.out H.out).mono ?_) | (with_reducible refine (get_eq R2.out (by omega) (by omega) F1.out H.out).mono ?_) | (with_reducible refine (get_eq R3.out (by omega) (by omega) F2.out H.out).mono ?_) | (with_reducible refine (get_eq R9.out (by omega) (by omega) F3.out H.out).mono ?_)); rintro e w1 ⟨rfl, hs⟩; clear H; have H := Aside0.mk hs; clear hs)))
        go_ret
        rw [HT.out, if_neg Nx1.out, if_neg Nx2.out, if_pos Q.out]
        exact ⟨rfl, H.out⟩
      · have px3 : ((x3 : Int) == 0) = false := by rw [beq_eq_false_iff_ne]; omega
        have Nx3 := Aside0.mk qx3
        clear qx3
        by_cases qx4 : x4 = 0
        · have px4 : ((x4 : Int) == 0) = true := by rw [beq_iff_eq]; omega
          have Q := Aside0.mk qx4
          clear qx4
          go_enter Tryd.func42, Tryd.ntmps42
          go_wp2_with (first | (go_at_call 41; go_loud ((first | (with_reducible refine (get_eq R1.out (by omega) (by omega) F0.out H.out).mono ?_) | (with_reducible refine (get_eq R2.out (by omega) (by omega) F1.out H.out).mono ?_) | (with_reducible refine (get_eq R3.out (by omega) (by omega) F2.out H.out).mono ?_) | (with_reducible refine (get_eq R4.out (by omega) (by omega) F3.out H.out).mono ?_) | (with_reducible refine (get_eq R12.out (by omega) (by omega) F4.out H.out).mono ?_)); rintro e w1 ⟨rfl, hs⟩; clear H; have H := Aside0.mk hs; clear hs)))
          go_ret
          rw [HT.out, if_neg Nx1.out, if_neg Nx2.out, if_neg Nx3.out, if_pos Q.out]
          exact ⟨rfl, H.out⟩
        · have px4 : ((x4 : Int) == 0) = false := by rw [beq_eq_false_iff_ne]; omega
          have Nx4 := Aside0.mk qx4
          clear qx4
          go_enter Tryd.func42, Tryd.ntmps42
          go_wp2_with (first | (go_at_call 41; go_loud ((first | (with_reducible refine (get_eq R1.out (by omega) (by omega) F0.out H.out).mono ?_) | (with_reducible refine (get_eq R2.out (by omega) (by omega) F1.out H.out).mono ?_) | (with_reducible refine (get_eq R3.out (by omega) (by omega) F2.out H.out).mono ?_) | (with_reducible refine (get_eq R4.out (by omega) (by omega) F3.out H.out).mono ?_) | (with_reducible refine (get_eq R64.out (by omega) (by omega) F4.out H.out).mono ?_)); rintro e w1 ⟨rfl, hs⟩; clear H; have H := Aside0.mk hs; clear hs)))
          go_ret
          rw [HT.out, if_neg Nx1.out, if_neg Nx2.out, if_neg Nx3.out, if_neg Nx4.out]
          exact ⟨rfl, H.out⟩
end Go.Proofs.YtmnlbedgkjnodaaDoor.RfW
namespace Go.Proofs.YtmnlbedgkjnodaaDoor.TdW
open Go.RowKit Go.Proofs.YtmnlbedgkjnodaaDoorW.PrintWords Go.Proofs.YtmnlbedgkjnodaaDoorW.PrintLast Go.Proofs.YtmnlbedgkjnodaaDoorW.PrintMore Go.Proofs.YtmnlbedgkjnodaaDoor.QB Go.Proofs.YtmnlbedgkjnodaaDoor.Sl Go.Proofs.YtmnlbedgkjnodaaDoor.Bt Go.Proofs.YtmnlbedgkjnodaaDoor.WrW Go.Proofs.YtmnlbedgkjnodaaDoor.RdW Go.Proofs.YtmnlbedgkjnodaaDoor.TzP Go.Proofs.YtmnlbedgkjnodaaDoor.TzW Go.Proofs.YtmnlbedgkjnodaaDoor.TeP Go.Proofs.YtmnlbedgkjnodaaDoor.TdP Go.Proofs.YtmnlbedgkjnodaaDoor.Ld
attribute [local go_sem] max2_int min2_int max_two min_two
def valV (r : Nat × Win) : Value := .tuple #[.int .u64 r.1, .agg #[.int .i64 (wl r.2), .int .i64 (wt r.2)]]
theorem drop3 {w0 w : World} {A B C D : Asn} {L : List Asn} (h : Sat w0 w (A :: B :: C :: D :: L)) : Sat w0 w (A :: L) :=
  (((((h.nth 1 rfl).tail : Sat w0 w (A :: C :: D :: L)).nth 1 rfl).tail : Sat w0 w (A :: D :: L)).nth 1 rfl).tail
theorem shl_value (r t : Nat) (ht : t ≤ 63) : IntKind.u64.wrap ((r : Int) * 2 ^ min (IntKind.u64.wrap (t : Int)).toNat 64) = ((r * 2 ^ t % 18446744073709551616 : Nat) : Int) := by
  have e : min (IntKind.u64.wrap (t : Int)).toNat 64 = t := by rw [IntKind.wrap_u64]; omega
  rw [e, IntKind.wrap_u64, Int.natCast_emod, Int.natCast_mul, Int.natCast_pow]
  rfl
def Dv.T2 : Bool × List (List Nat × List Nat) := (true, [([], []), ([], []), ([0, 1, 0, 1], [0])])
def Dv.B2 : List Nat := [0, 0, 3]
theorem Dv.tab2 : rtab .any (opsOf Tryd.f55 2) = Dv.T2 := by kernel_rfl
theorem Dv.bits2 : waitsOk Dv.T2.2 Dv.B2 = true := by kernel_rfl
def Dv.T5 : Bool × List (List Nat × List Nat) := (true, [([], []), ([0], [0]), ([1], [1]), ([], []), ([3], [3]), ([4], [4]), ([2, 5], [2, 5]), ([0, 1, 2, 3, 4, 5, 6], []), ([7, 6, 4, 0, 1, 2, 3, 4, 5, 6], [6, 7])])
def Dv.B5 : List Nat := [0, 1, 3, 0, 8, 24, 63, 127, 255]
theorem Dv.tab5 : rtab .any (opsOf Tryd.f55 5) = Dv.T5 := by kernel_rfl
theorem Dv.bits5 : waitsOk Dv.T5.2 Dv.B5 = true := by kernel_rfl
def Dv.T8 : Bool × List (List Nat × List Nat) := (true, [([], []), ([], []), ([1], [1]), ([0, 2, 2], [0, 2]), ([], []), ([4], [4]), ([5], [5]), ([3, 6], [3, 6]), ([], []), ([7, 3, 0, 1, 2, 3, 4, 5, 6, 7], [7]), ([8, 9, 0, 1, 2, 3, 4, 5, 6, 7, 8, 9], [8])])
def Dv.B8 : List Nat := [0, 0, 2, 7, 0, 16, 48, 127, 0, 255, 1023]
theorem Dv.tab8 : rtab .any (opsOf Tryd.f55 8) = Dv.T8 := by kernel_rfl
theorem Dv.bits8 : waitsOk Dv.T8.2 Dv.B8 = true := by kernel_rfl
set_option maxHeartbeats 8000000 in
set_option maxRecDepth 100000 in
theorem dvalue_calls (w0 w : World) (L : List Asn) (g : Nat) (b : List Int) (p : Nat) (x : Win) (hx : x.Ok) (hb : b.length ≤ 1099511627776) (hby : ∀ x ∈ b, 0 ≤ x ∧ x < 256) (hp : p ≤ 8 * b.length) (h : Sat w0 w (Rd g b p :: L)) :
    Calls Tryd.prog 55 #[.agg #[.pointer (some ⟨g, 0, none⟩)], .agg #[.int .i64 (wl x), .int .i64 (wt x)]] w (POut (valueP b p x) valV w0 L g b) := by
  have h1 := ((h.newBlk #[.pointer (some ⟨g, 0, none⟩)] 70).newBlk #[.int .i64 (wl x), .int .i64 (wt x)] 47).newBlk #[.int .i64 0, .int .i64 0] 47
  rw [alloc_size, alloc_size] at h1
  have H1 := Aside0.mk (show Sat w0 _ (Rd g b p :: Blk (w.heap.size + 1 + 1) #[.int .i64 0, .int .i64 0] 47 :: Blk (w.heap.size + 1) #[.int .i64 (wl x), .int .i64 (wt x)] 47 :: Blk w.heap.size #[.pointer (some ⟨g, 0, none⟩)] 70 :: L) from h1.nth 3 rfl)
  have HBY := Aside0.mk hby
  have HX := Aside0.mk hx
  clear h h1 hby hx
  by_cases hg1 : 1 ≤ 8 * b.length - p
  rotate_left
  · have HO := Aside0.mk (show valueP b p x = none from by unfold valueP; rw [gb_bad hg1]; rfl)
    go_enter Tryd.func55, Tryd.ntmps55
    go_upto_region 1 with (fail)
    generalize ((w.alloc (.cells #[.pointer (some ⟨g, 0, none⟩)] 70)).alloc (.cells #[.int .i64 (wl x), .int .i64 (wt x)] 47)).alloc (.cells #[.int .i64 0, .int .i64 0] 47) = w1 at H1 ⊢
    have k0 := (H1.out.nth 3 rfl).cell 0 (v := .pointer (some ⟨g, 0, none⟩)) rfl
    go_wp2_with (first | (go_at_call 53; go_loud ((with_reducible refine (dget_bad w0 w1 _ g b p 1 1 rfl hb hp hg1 H1.out).mono ?_); rintro e w2 ⟨rfl, hs⟩; have H2 := Aside0.mk hs; clear hs)))
    exact ⟨rfl, POut.bad HO.out rfl (drop3 H2.out)⟩
  obtain ⟨v, hv⟩ : ∃ v, getN b p 1 = v := ⟨_, rfl⟩
  have hv2 := getN_one_lt b p
  rw [hv] at hv2
  have HV := Aside0.mk hv
  by_cases hv0 : v = 0
  · subst hv0
    have HO := Aside0.mk (show valueP b p x = some ((0, x), p + 1) from by unfold valueP; rw [gb_ok hg1, hv]; rfl)
    clear hv
    go_enter Tryd.func55, Tryd.ntmps55
    go_upto_region 1 with (fail)
    generalize ((w.alloc (.cells #[.pointer (some ⟨g, 0, none⟩)] 70)).alloc (.cells #[.int .i64 (wl x), .int .i64 (wt x)] 47)).alloc (.cells #[.int .i64 0, .int .i64 0] 47) = w1 at H1 ⊢
    generalize w.heap.size + 1 + 1 = gr at H1 ⊢
    generalize w.heap.size + 1 = gx at H1 ⊢
    generalize w.heap.size = gd at H1 ⊢
    have k0 := (H1.out.nth 3 rfl).cell 0 (v := .pointer (some ⟨g, 0, none⟩)) rfl
    go_wp2_with (first | (go_at_call 53; go_loud ((with_reducible refine (dget_ok w0 w1 _ g b p 1 1 rfl hb HBY.out hp hg1 H1.out).mono ?_); rintro e w2 ⟨rfl, hs⟩; rw [HV.out]; have H2 := Aside0.mk hs; clear hs)))
    have HDr := Aside0.mk (show Sat w0 w2.drew (Blk gr #[.int .i64 0, .int .i64 0] 47 :: Rd g b (p + 1) :: Blk gx #[.int .i64 (wl x), .int .i64 (wt x)] 47 :: Blk gd #[.pointer (some ⟨g, 0, none⟩)] 70 :: L) from H2.out.drew.nth 1 rfl)
    have q0 := (HDr.out.nth 2 rfl).cell 0 (v := .int .i64 (wl x)) rfl
    have q1 := (HDr.out.nth 2 rfl).cell 1 (v := .int .i64 (wt x)) rfl
    clear k0
    refine start_ (n := 3) (S := fun w' => w'.cell? ⟨gx, 0, none⟩ = some (.int .i64 (wl x)) ∧ w'.cell? ⟨gx, 1, none⟩ = some (.int .i64 (wt x))) (ds := [2]) #[false, false, false] (by kernel_rfl) rfl rfl ⟨q0, q1⟩ (fun hHeld => ?_)
    refine with_tabW Dv.tab2 Dv.bits2 (fun HT_ HW_ => ?_)
    refine pure_ (i := 1) (N := some 4) (v := ?_) (a' := ?_) #[false, true, false] rfl rfl (any_of HT_.out (by kernel_rfl)) (fun _ _ _ h => h) (Or.inl ⟨by rfl, ?_⟩) ?_ ?_
    rotate_left
    · intro w'
      go_simp
      with_reducible rfl
    rotate_left
    · simp only [Act.put, List.setIfInBounds_toArray, List.set_cons_zero, List.set_cons_succ, i64_w, i32_w]
      rfl
    refine take_ (i := 0) (N := some 9) (v := ?_) (a' := ?_) #[true, true, false] rfl rfl (take_ofW HT_.out HW_.out (by kernel_rfl)) (fun _ _ _ h => h) (Or.inl ⟨by rfl, ?_⟩) hHeld ?_ ?_
    rotate_left
    · rintro w' ⟨s0, s1⟩
      go_simp
      with_reducible rfl
    rotate_left
    · simp only [Act.put, List.setIfInBounds_toArray, List.set_cons_zero, List.set_cons_succ, i64_w, i32_w]
      rfl
    refine last_ (i := 2) (N := none) #[true, true, true] rfl rfl (one_of HT_.out (by kernel_rfl)) (by decide) (fun K hK => ?_)
    have s0 := (H2.out.nth 1 rfl).cell 0 (v := .int .i64 0) rfl
    have s1 := (H2.out.nth 1 rfl).cell 1 (v := .int .i64 0) rfl
    have t0 := (H2.out.nth 1 rfl).free 0
    have t1 := (H2.out.nth 1 rfl).free 1
    refine skip_ (w1 := ?_) (by rfl) rfl ?_ ?_
    rotate_left
    · go_simp
      rfl
    refine hK.out _ _ ?_
    clear hK K
    refine done_ (done_of HT_.out (by kernel_rfl)) ?_
    have HY := Aside0.mk (((H2.out.nth 1 rfl).setBlk 0 (.int .i64 (wl x))).setBlk 1 (.int .i64 (wt x))).drew
    go_wp2
    refine bodyPost_ret (results_tc rfl _ _ gr 47 #[.int .i64 (wl x), .int .i64 (wt x)] (0, 0) _ rfl HY.out.blk Tryd.underlying47 rfl (by kernel_rfl)) rfl ?_
    exact POut.ok HO.out rfl (drop3 ((show Sat w0 _ (Blk gr _ 47 :: Rd g b (p + 1) :: Blk gx _ 47 :: Blk gd _ 70 :: L) from HY.out).nth 1 rfl))
  have dv : ((v : Int) == 0) = false := by rw [beq_eq_false_iff_ne]; omega
  obtain ⟨p1, hp1e⟩ : ∃ p1, p + 1 = p1 := ⟨_, rfl⟩
  have hp1 : p1 ≤ 8 * b.length := by omega
  have HO1 := Aside0.mk (show valueP b p x = (gb b p1 1).bind fun u => if u.1 = 1 then wideP b u.2 else heldP b u.2 x from by unfold valueP; rw [gb_ok hg1, hv]; simp only [Option.bind_some]; rw [if_neg hv0, hp1e])
  clear hv
  go_enter Tryd.func55, Tryd.ntmps55
  go_upto_region 1 with (fail)
  generalize ((w.alloc (.cells #[.pointer (some ⟨g, 0, none⟩)] 70)).alloc (.cells #[.int .i64 (wl x), .int .i64 (wt x)] 47)).alloc (.cells #[.int .i64 0, .int .i64 0] 47) = w1 at H1 ⊢
  generalize w.heap.size + 1 + 1 = gr at H1 ⊢
  generalize w.heap.size + 1 = gx at H1 ⊢
  generalize w.heap.size = gd at H1 ⊢
  have k0 := (H1.out.nth 3 rfl).cell 0 (v := .pointer (some ⟨g, 0, none⟩)) rfl
  go_upto_region 3 with (first | (go_at_call 53; go_loud ((with_reducible refine (dget_ok w0 w1 _ g b p 1 1 rfl hb HBY.out hp hg1 H1.out).mono ?_); rintro e w2 ⟨rfl, hs⟩; rw [HV.out]; have H2 := Aside0.mk (show Sat w0 w2 (Rd g b (p + 1) :: Blk gr #[.int .i64 0, .int .i64 0] 47 :: Blk gx #[.int .i64 (wl x), .int .i64 (wt x)] 47 :: Blk gd #[.pointer (some ⟨g, 0, none⟩)] 70 :: L) from hs); clear hs)))
  rw [hp1e] at H2
  have k1 := (H2.out.nth 3 rfl).cell 0 (v := .pointer (some ⟨g, 0, none⟩)) rfl
  clear k0 H1 HV hp1e
  by_cases hg2 : 1 ≤ 8 * b.length - p1
  rotate_left
  · have HO := Aside0.mk (show valueP b p x = none from by rw [HO1.out, gb_bad hg2]; rfl)
    go_wp2_with (first | (go_at_call 53; go_loud ((with_reducible refine (dget_bad w0 w2 _ g b p1 1 1 rfl hb hp1 hg2 H2.out).mono ?_); rintro e w3 ⟨rfl, hs⟩; have H3 := Aside0.mk hs; clear hs)))
    exact ⟨rfl, POut.bad HO.out rfl (drop3 H3.out)⟩
  obtain ⟨u, hu⟩ : ∃ u, getN b p1 1 = u := ⟨_, rfl⟩
  have hu2 := getN_one_lt b p1
  rw [hu] at hu2
  have HU := Aside0.mk hu
  obtain ⟨q, hqe⟩ : ∃ q, p1 + 1 = q := ⟨_, rfl⟩
  have hq : q ≤ 8 * b.length := by omega
  by_cases hu0 : u = 1
  · subst hu0
    have HO2 := Aside0.mk (show valueP b p x = wideP b q from by rw [HO1.out, gb_ok hg2, hu, hqe]; rfl)
    clear hu HO1
    go_upto_region 4 with (first | (go_at_call 53; go_loud ((with_reducible refine (dget_ok w0 w2 _ g b p1 1 1 rfl hb HBY.out hp1 hg2 H2.out).mono ?_); rintro e w3 ⟨rfl, hs⟩; rw [HU.out]; have H3 := Aside0.mk (show Sat w0 w3 (Rd g b (p1 + 1) :: Blk gr #[.int .i64 0, .int .i64 0] 47 :: Blk gx #[.int .i64 (wl x), .int .i64 (wt x)] 47 :: Blk gd #[.pointer (some ⟨g, 0, none⟩)] 70 :: L) from hs); clear hs)))
    rw [hqe] at H3
    clear k1 H2 hqe
    have k1 := (H3.out.nth 3 rfl).cell 0 (v := .pointer (some ⟨g, 0, none⟩)) rfl
    by_cases hg3 : 5 ≤ 8 * b.length - q
    rotate_left
    · have HO := Aside0.mk (show valueP b p x = none from by rw [HO2.out]; unfold wideP; rw [gb_bad hg3]; rfl)
      go_wp2_with (first | (go_at_call 53; go_loud ((with_reducible refine (dget_bad w0 w3 _ g b q 5 5 rfl hb hq hg3 H3.out).mono ?_); rintro e w4 ⟨rfl, hs⟩; have H4 := Aside0.mk hs; clear hs)))
      exact ⟨rfl, POut.bad HO.out rfl (drop3 H4.out)⟩
    obtain ⟨a, ha⟩ : ∃ a, getN b q 5 = a := ⟨_, rfl⟩
    have ha2 : a < 32 := by rw [← ha]; exact getN_lt b q 5 (by omega)
    have HA := Aside0.mk ha
    obtain ⟨p3, hp3e⟩ : ∃ p3, q + 5 = p3 := ⟨_, rfl⟩
    have hp3 : p3 ≤ 8 * b.length := by omega
    have HO3 := Aside0.mk (show valueP b p x = (gb b p3 6).bind fun n => if 63 < a + n.1 then none else finP b n.2 a (63 - a - n.1) from by rw [HO2.out]; unfold wideP; rw [gb_ok hg3, ha, hp3e]; rfl)
    have ea : IntKind.i64.wrap (a : Int) = (a : Int) := by rw [IntKind.wrap_i64]; omega
    clear ha HO2
    go_upto_region 5 with (first | (go_at_call 53; go_loud ((with_reducible refine (dget_ok w0 w3 _ g b q 5 5 rfl hb HBY.out hq hg3 H3.out).mono ?_); rintro e w4 ⟨rfl, hs⟩; rw [HA.out]; have k2 := ((show Sat w0 w4 (Rd g b (q + 5) :: Blk gr #[.int .i64 0, .int .i64 0] 47 :: Blk gx #[.int .i64 (wl x), .int .i64 (wt x)] 47 :: Blk gd #[.pointer (some ⟨g, 0, none⟩)] 70 :: L) from hs).nth 2 rfl).cell 0 (v := .int .i64 (wl x)) rfl; have k3 := ((show Sat w0 w4 (Rd g b (q + 5) :: Blk gr #[.int .i64 0, .int .i64 0] 47 :: Blk gx #[.int .i64 (wl x), .int .i64 (wt x)] 47 :: Blk gd #[.pointer (some ⟨g, 0, none⟩)] 70 :: L) from hs).nth 2 rfl).free 0; have H4 := Aside0.mk (show Sat w0 w4 (Rd g b (q + 5) :: Blk gr #[.int .i64 0, .int .i64 0] 47 :: Blk gx #[.int .i64 (wl x), .int .i64 (wt x)] 47 :: Blk gd #[.pointer (some ⟨g, 0, none⟩)] 70 :: L) from hs); clear hs)))
    have H5 : Aside0 (Sat w0 (w4.setCell ⟨gx, 0, none⟩ (.int .i64 a)) (Rd g b p3 :: Blk gr #[.int .i64 0, .int .i64 0] 47 :: Blk gx #[.int .i64 a, .int .i64 (wt x)] 47 :: Blk gd #[.pointer (some ⟨g, 0, none⟩)] 70 :: L)) := ⟨by rw [← hp3e]; exact (((H4.out.nth 2 rfl).setBlk 0 (.int .i64 a)).nth 2 rfl).nth 2 rfl⟩
    generalize w4.setCell ⟨gx, 0, none⟩ (.int .i64 a) = w5 at H5 ⊢
    clear k1 k2 k3 H3 H4 hp3e HA
    have HD := Aside0.mk (show Sat w0 w5.drew (Rd g b p3 :: Blk gr #[.int .i64 0, .int .i64 0] 47 :: Blk gx #[.int .i64 a, .int .i64 (wt x)] 47 :: Blk gd #[.pointer (some ⟨g, 0, none⟩)] 70 :: L) from H5.out.drew)
    have q0 := (HD.out.nth 3 rfl).cell 0 (v := .pointer (some ⟨g, 0, none⟩)) rfl
    have q1 := (HD.out.nth 2 rfl).cell 0 (v := .int .i64 a) rfl
    have e63 : IntKind.i64.wrap (63 - (a : Int)) = 63 - (a : Int) := by rw [IntKind.wrap_i64]; omega
    by_cases hg4 : 6 ≤ 8 * b.length - p3
    rotate_left
    · have HO := Aside0.mk (show valueP b p x = none from by rw [HO3.out, gb_bad hg4]; rfl)
      refine start_ (n := 9) (S := fun w' => w'.cell? ⟨gd, 0, none⟩ = some (.pointer (some ⟨g, 0, none⟩)) ∧ w'.cell? ⟨gx, 0, none⟩ = some (.int .i64 a)) (ds := [8]) #[false, false, false, false, false, false, false, false, false] (by kernel_rfl) rfl rfl ⟨q0, q1⟩ (fun hHeld => ?_)
      refine with_tabW Dv.tab5 Dv.bits5 (fun HT_ HW_ => ?_)
      refine pure_ (i := 0) (N := some 17) (v := ?_) (a' := ?_) #[true, false, false, false, false, false, false, false, false] rfl rfl (any_of HT_.out (by kernel_rfl)) (fun _ _ _ h => h) (Or.inl ⟨by rfl, ?_⟩) ?_ ?_
      rotate_left
      · intro w'
        go_simp
        with_reducible rfl
      rotate_left
      · simp only [Act.put, List.setIfInBounds_toArray, List.set_cons_zero, List.set_cons_succ, i64_w, i32_w]
        rfl
      refine take_ (i := 1) (N := some 18) (v := ?_) (a' := ?_) #[true, true, false, false, false, false, false, false, false] rfl rfl (take_ofW HT_.out HW_.out (by kernel_rfl)) (fun _ _ _ h => h) (Or.inl ⟨by rfl, ?_⟩) hHeld ?_ ?_
      rotate_left
      · rintro w' ⟨s0, s1⟩
        go_simp
        with_reducible rfl
      rotate_left
      · simp only [Act.put, List.setIfInBounds_toArray, List.set_cons_zero, List.set_cons_succ, i64_w, i32_w]
        rfl
      refine pure_ (i := 2) (N := some 19) (v := ?_) (a' := ?_) #[true, true, true, false, false, false, false, false, false] rfl rfl (any_of HT_.out (by kernel_rfl)) (fun _ _ _ h => h) (Or.inl ⟨by rfl, ?_⟩) ?_ ?_
      rotate_left
      · intro w'
        go_simp
        with_reducible rfl
      rotate_left
      · simp only [Act.put, List.setIfInBounds_toArray, List.set_cons_zero, List.set_cons_succ, i64_w, i32_w]
        rfl
      refine take_ (i := 3) (N := some 20) (v := ?_) (a' := ?_) #[true, true, true, true, false, false, false, false, false] rfl rfl (take_ofW HT_.out HW_.out (by kernel_rfl)) (fun _ _ _ h => h) (Or.inl ⟨by rfl, ?_⟩) hHeld ?_ ?_
      rotate_left
      · rintro w' ⟨s0, s1⟩
        go_simp
        with_reducible rfl
      rotate_left
      · simp only [Act.put, List.setIfInBounds_toArray, List.set_cons_zero, List.set_cons_succ, i64_w, i32_w]
        rfl
      refine one_ (i := 4) (N := some 21) #[true, true, true, true, true, false, false, false, false] rfl rfl (one_of HT_.out (by kernel_rfl)) (by decide) (fun K hK => ?_)
      refine goesP_ Tryd.func53 (by kernel_rfl) rfl #[.agg #[.pointer (some ⟨g, 0, none⟩)], .int .i64 6] (by rfl) rfl (by simp only [List.map_toArray, List.map_cons, List.map_nil]; rfl) [wrongE] ?_
      with_reducible refine (dget_bad w0 _ _ g b p3 6 6 rfl hb hp3 hg4 HD.out).mono ?_
      rintro e w9 ⟨rfl, hs9⟩
      refine ⟨rfl, ?_⟩
      have HS9 := Aside0.mk hs9
      clear hs9
      exact ⟨rfl, POut.bad HO.out rfl (drop3 HS9.out)⟩
    obtain ⟨n, hn⟩ : ∃ n, getN b p3 6 = n := ⟨_, rfl⟩
    have hn2 : n < 64 := by rw [← hn]; exact getN_lt b p3 6 (by omega)
    have HN := Aside0.mk hn
    have HO4 := Aside0.mk (show valueP b p x = if 63 < a + n then none else finP b (p3 + 6) a (63 - a - n) from by rw [HO3.out, gb_ok hg4, hn]; rfl)
    obtain ⟨tr, htr⟩ : ∃ tr : Int, 63 - (a : Int) - (n : Int) = tr := ⟨_, rfl⟩
    have en : IntKind.i64.wrap (n : Int) = (n : Int) := by rw [IntKind.wrap_i64]; omega
    have et : IntKind.i64.wrap (63 - (a : Int) - (n : Int)) = tr := by rw [IntKind.wrap_i64]; omega
    have HTR := Aside0.mk htr
    clear htr hn HO3
    refine start_ (n := 9) (S := fun w' => w'.cell? ⟨gd, 0, none⟩ = some (.pointer (some ⟨g, 0, none⟩)) ∧ w'.cell? ⟨gx, 0, none⟩ = some (.int .i64 a)) (ds := [8]) #[false, false, false, false, false, false, false, false, false] (by kernel_rfl) rfl rfl ⟨q0, q1⟩ (fun hHeld => ?_)
    refine with_tabW Dv.tab5 Dv.bits5 (fun HT_ HW_ => ?_)
    refine pure_ (i := 0) (N := some 17) (v := ?_) (a' := ?_) #[true, false, false, false, false, false, false, false, false] rfl rfl (any_of HT_.out (by kernel_rfl)) (fun _ _ _ h => h) (Or.inl ⟨by rfl, ?_⟩) ?_ ?_
    rotate_left
    · intro w'
      go_simp
      with_reducible rfl
    rotate_left
    · simp only [Act.put, List.setIfInBounds_toArray, List.set_cons_zero, List.set_cons_succ, i64_w, i32_w]
      rfl
    refine take_ (i := 1) (N := some 18) (v := ?_) (a' := ?_) #[true, true, false, false, false, false, false, false, false] rfl rfl (take_ofW HT_.out HW_.out (by kernel_rfl)) (fun _ _ _ h => h) (Or.inl ⟨by rfl, ?_⟩) hHeld ?_ ?_
    rotate_left
    · rintro w' ⟨s0, s1⟩
      go_simp
      with_reducible rfl
    rotate_left
    · simp only [Act.put, List.setIfInBounds_toArray, List.set_cons_zero, List.set_cons_succ, i64_w, i32_w]
      rfl
    refine pure_ (i := 2) (N := some 19) (v := ?_) (a' := ?_) #[true, true, true, false, false, false, false, false, false] rfl rfl (any_of HT_.out (by kernel_rfl)) (fun _ _ _ h => h) (Or.inl ⟨by rfl, ?_⟩) ?_ ?_
    rotate_left
    · intro w'
      go_simp
      with_reducible rfl
    rotate_left
    · simp only [Act.put, List.setIfInBounds_toArray, List.set_cons_zero, List.set_cons_succ, i64_w, i32_w]
      rfl
    refine take_ (i := 3) (N := some 20) (v := ?_) (a' := ?_) #[true, true, true, true, false, false, false, false, false] rfl rfl (take_ofW HT_.out HW_.out (by kernel_rfl)) (fun _ _ _ h => h) (Or.inl ⟨by rfl, ?_⟩) hHeld ?_ ?_
    rotate_left
    · rintro w' ⟨s0, s1⟩
      go_simp
      with_reducible rfl
    rotate_left
    · simp only [Act.put, List.setIfInBounds_toArray, List.set_cons_zero, List.set_cons_succ, i64_w, i32_w]
      rfl
    refine one_ (i := 4) (N := some 21) #[true, true, true, true, true, false, false, false, false] rfl rfl (one_of HT_.out (by kernel_rfl)) (by decide) (fun K hK => ?_)
    refine goes_ Tryd.func53 (by kernel_rfl) rfl #[.agg #[.pointer (some ⟨g, 0, none⟩)], .int .i64 6] (by rfl) rfl rfl (by simp only [List.map_toArray, List.map_cons, List.map_nil]; rfl) ?_
    with_reducible refine (dget_ok w0 _ _ g b p3 6 6 rfl hb HBY.out hp3 hg4 HD.out).mono ?_
    rintro e w9 ⟨rfl, hs9⟩
    refine ⟨_, rfl, ?_⟩
    rw [HN.out]
    have HS9 := Aside0.mk hs9
    clear hs9
    have p0 := (HS9.out.nth 3 rfl).cell 0 (v := .pointer (some ⟨g, 0, none⟩)) rfl
    have p1 := (HS9.out.nth 2 rfl).cell 0 (v := .int .i64 a) rfl
    refine hK.out _ _ ⟨p0, p1⟩ (fun hHeld => ?_)
    clear hK K
    refine norm_ (a' := ?_) ?_ ?_
    rotate_left
    · show Act.put _ (some 21) _ = _
      simp only [Act.put, List.setIfInBounds_toArray, List.set_cons_zero, List.set_cons_succ, i64_w, i32_w]
      rfl
    refine take_ (i := 5) (N := some 22) (v := ?_) (a' := ?_) #[true, true, true, true, true, true, false, false, false] rfl rfl (take_ofW HT_.out HW_.out (by kernel_rfl)) (fun _ _ _ h => h) (Or.inl ⟨by rfl, ?_⟩) hHeld ?_ ?_
    rotate_left
    · rintro w' ⟨s0, s1⟩
      go_simp
      with_reducible rfl
    rotate_left
    · simp only [Act.put, List.setIfInBounds_toArray, List.set_cons_zero, List.set_cons_succ, i64_w, i32_w]
      rfl
    refine pure_ (i := 6) (N := some 23) (v := ?_) (a' := ?_) #[true, true, true, true, true, true, true, false, false] rfl rfl (any_of HT_.out (by kernel_rfl)) (fun _ _ _ h => h) (Or.inl ⟨by rfl, ?_⟩) ?_ ?_
    rotate_left
    · intro w'
      go_simp
      with_reducible rfl
    rotate_left
    · simp only [Act.put, List.setIfInBounds_toArray, List.set_cons_zero, List.set_cons_succ, i64_w, i32_w]
      rfl
    refine pure_ (i := 7) (N := some 24) (v := ?_) (a' := ?_) #[true, true, true, true, true, true, true, true, false] rfl rfl (any_of HT_.out (by kernel_rfl)) (fun _ _ _ h => h) (Or.inl ⟨by rfl, ?_⟩) ?_ ?_
    rotate_left
    · intro w'
      go_simp
      with_reducible rfl
    rotate_left
    · simp only [Act.put, List.setIfInBounds_toArray, List.set_cons_zero, List.set_cons_succ, i64_w, i32_w]
      rfl
    refine last_ (i := 8) (N := none) #[true, true, true, true, true, true, true, true, true] rfl rfl (one_of HT_.out (by kernel_rfl)) (by decide) (fun K hK => ?_)
    have s1 := (HS9.out.nth 2 rfl).cell 1 (v := .int .i64 (wt x)) rfl
    have t1 := (HS9.out.nth 2 rfl).free 1
    refine skip_ (w1 := ?_) (by rfl) rfl ?_ ?_
    rotate_left
    · go_simp
      rfl
    refine hK.out _ _ ?_
    clear hK K
    refine done_ (done_of HT_.out (by kernel_rfl)) ?_
    have H9 : Aside0 (Sat w0 (w9.setCell ⟨gx, 1, none⟩ (.int .i64 tr)) (Rd g b (p3 + 6) :: Blk gr #[.int .i64 0, .int .i64 0] 47 :: Blk gx #[.int .i64 a, .int .i64 tr] 47 :: Blk gd #[.pointer (some ⟨g, 0, none⟩)] 70 :: L)) := ⟨(((HS9.out.nth 2 rfl).setBlk 1 (.int .i64 tr)).nth 2 rfl).nth 2 rfl⟩
    generalize w9.setCell ⟨gx, 1, none⟩ (.int .i64 tr) = w10b at H9 ⊢
    clear q0 q1 HD H5 HS9 e63 en et s1 t1 HN
    have k2 := (H9.out.nth 2 rfl).cell 0 (v := .int .i64 a) rfl
    have k3 := (H9.out.nth 2 rfl).cell 1 (v := .int .i64 tr) rfl
    have da : decide ((a : Int) < 0) = false := decide_eq_false (by omega)
    obtain ⟨q, hqe⟩ : ∃ q, p3 + 6 = q := ⟨_, rfl⟩
    rw [hqe] at H9
    have hq : q ≤ 8 * b.length := by omega
    by_cases hbad : 63 < a + n
    · have HO := Aside0.mk (show valueP b p x = none from by rw [HO4.out, if_pos hbad])
      have dt : decide (tr < 0) = true := decide_eq_true (by have := HTR.out; omega)
      go_wp2
      exact ⟨rfl, POut.bad HO.out rfl (drop3 H9.out)⟩
    · obtain ⟨t, ht⟩ : ∃ t : Nat, 63 - a - n = t := ⟨_, rfl⟩
      have htt : tr = (t : Int) := by have := HTR.out; omega
      have HFO := Aside0.mk (show valueP b p x = finP b q a t from by rw [HO4.out, if_neg hbad, ht, hqe])
      have HAB := Aside0.mk (show a + t ≤ 63 from by omega)
      subst htt
      have dt : decide ((t : Int) < 0) = false := decide_eq_false (by omega)
      have H10 := H9
      clear HTR HO4 H9 ht hqe
      go_wp2
      have hab : a + t ≤ 63 := HAB.out
      have HSZ := Aside0.mk (size_f hab)
      have HCZ := Aside0.mk (cutN_nat (64 - a - t) (by omega))
      have HE := Aside0.mk (show Sat w0 w10b.drew (Rd g b q :: Blk gr #[.int .i64 0, .int .i64 0] 47 :: Blk gx #[.int .i64 a, .int .i64 t] 47 :: Blk gd #[.pointer (some ⟨g, 0, none⟩)] 70 :: L) from H10.out.drew)
      have q0 := (HE.out.nth 3 rfl).cell 0 (v := .pointer (some ⟨g, 0, none⟩)) rfl
      have q1 := (HE.out.nth 2 rfl).cell 0 (v := .int .i64 a) rfl
      have q2 := (HE.out.nth 2 rfl).cell 1 (v := .int .i64 t) rfl
      by_cases hgz : 64 - a - t ≤ 8 * b.length - q
      · obtain ⟨r, hr⟩ : ∃ r, getN b q (64 - a - t) = r := ⟨_, rfl⟩
        have HO := Aside0.mk (show valueP b p x = some ((r * 2 ^ t % 18446744073709551616, some (a, t)), q + (64 - a - t)) from by rw [HFO.out]; unfold finP; rw [gb_ok hgz, hr]; rfl)
        have HR := Aside0.mk hr
        have HSL := Aside0.mk (shl_value r t (by omega))
        clear hr
        refine start_ (n := 11) (S := fun w' => w'.cell? ⟨gd, 0, none⟩ = some (.pointer (some ⟨g, 0, none⟩)) ∧ w'.cell? ⟨gx, 0, none⟩ = some (.int .i64 a) ∧ w'.cell? ⟨gx, 1, none⟩ = some (.int .i64 t)) (ds := [10]) #[false, false, false, false, false, false, false, false, false, false, false] (by kernel_rfl) rfl rfl ⟨q0, q1, q2⟩ (fun hHeld => ?_)
        refine with_tabW Dv.tab8 Dv.bits8 (fun HT_ HW_ => ?_)
        refine pure_ (i := 4) (N := some 39) (v := ?_) (a' := ?_) #[false, false, false, false, true, false, false, false, false, false, false] rfl rfl (any_of HT_.out (by kernel_rfl)) (fun _ _ _ h => h) (Or.inl ⟨by rfl, ?_⟩) ?_ ?_
        rotate_left
        · intro w'
          go_simp
          with_reducible rfl
        rotate_left
        · simp only [Act.put, List.setIfInBounds_toArray, List.set_cons_zero, List.set_cons_succ, i64_w, i32_w]
          rfl
        refine take_ (i := 0) (N := some 35) (v := ?_) (a' := ?_) #[true, false, false, false, true, false, false, false, false, false, false] rfl rfl (take_ofW HT_.out HW_.out (by kernel_rfl)) (fun _ _ _ h => h) (Or.inl ⟨by rfl, ?_⟩) hHeld ?_ ?_
        rotate_left
        · rintro w' ⟨s0, s1, s2⟩
          go_simp
          with_reducible rfl
        rotate_left
        · simp only [Act.put, List.setIfInBounds_toArray, List.set_cons_zero, List.set_cons_succ, i64_w, i32_w]
          rfl
        refine take_ (i := 1) (N := some 36) (v := ?_) (a' := ?_) #[true, true, false, false, true, false, false, false, false, false, false] rfl rfl (take_ofW HT_.out HW_.out (by kernel_rfl)) (fun _ _ _ h => h) (Or.inl ⟨by rfl, ?_⟩) hHeld ?_ ?_
        rotate_left
        · rintro w' ⟨s0, s1, s2⟩
          go_simp
          with_reducible rfl
        rotate_left
        · simp only [Act.put, List.setIfInBounds_toArray, List.set_cons_zero, List.set_cons_succ, i64_w, i32_w]
          rfl
        refine take_ (i := 5) (N := some 40) (v := ?_) (a' := ?_) #[true, true, false, false, true, true, false, false, false, false, false] rfl rfl (take_ofW HT_.out HW_.out (by kernel_rfl)) (fun _ _ _ h => h) (Or.inl ⟨by rfl, ?_⟩) hHeld ?_ ?_
        rotate_left
        · rintro w' ⟨s0, s1, s2⟩
          go_simp
          with_reducible rfl
        rotate_left
        · simp only [Act.put, List.setIfInBounds_toArray, List.set_cons_zero, List.set_cons_succ, i64_w, i32_w]
          rfl
        refine take_ (i := 6) (N := some 41) (v := ?_) (a' := ?_) #[true, true, false, false, true, true, true, false, false, false, false] rfl rfl (take_ofW HT_.out HW_.out (by kernel_rfl)) (fun _ _ _ h => h) (Or.inl ⟨by rfl, ?_⟩) hHeld ?_ ?_
        rotate_left
        · rintro w' ⟨s0, s1, s2⟩
          go_simp
          with_reducible rfl
        rotate_left
        · simp only [Act.put, List.setIfInBounds_toArray, List.set_cons_zero, List.set_cons_succ, i64_w, i32_w]
          rfl
        refine take_ (i := 8) (N := some 43) (v := ?_) (a' := ?_) #[true, true, false, false, true, true, true, false, true, false, false] rfl rfl (take_ofW HT_.out HW_.out (by kernel_rfl)) (fun _ _ _ h => h) (Or.inl ⟨by rfl, ?_⟩) hHeld ?_ ?_
        rotate_left
        · rintro w' ⟨s0, s1, s2⟩
          go_simp
          with_reducible rfl
        rotate_left
        · simp only [Act.put, List.setIfInBounds_toArray, List.set_cons_zero, List.set_cons_succ, i64_w, i32_w]
          rfl
        refine one_ (i := 2) (N := some 37) #[true, true, true, false, true, true, true, false, true, false, false] rfl rfl (one_of HT_.out (by kernel_rfl)) (by decide) (fun K hK => ?_)
        refine goes_ Tryd.func48 (by kernel_rfl) rfl #[.agg #[.int .i64 a, .int .i64 t]] (by rfl) rfl rfl (by simp only [List.map_toArray, List.map_cons, List.map_nil]; rfl) ?_
        with_reducible refine (tsz_window_size.calls (a : Int) (t : Int) _ _ HSZ.out).mono ?_
        rintro e w10 ⟨rfl, hb10⟩
        refine ⟨_, rfl, ?_⟩
        have HS10 := Aside0.mk (HE.out.step hb10)
        clear hb10
        have p0 := (HS10.out.nth 3 rfl).cell 0 (v := .pointer (some ⟨g, 0, none⟩)) rfl
        have p1 := (HS10.out.nth 2 rfl).cell 0 (v := .int .i64 a) rfl
        have p2 := (HS10.out.nth 2 rfl).cell 1 (v := .int .i64 t) rfl
        refine hK.out _ _ ⟨p0, p1, p2⟩ (fun hHeld => ?_)
        clear hK K
        refine norm_ (a' := ?_) ?_ ?_
        rotate_left
        · show Act.put _ (some 37) _ = _
          simp only [Act.put, List.setIfInBounds_toArray, List.set_cons_zero, List.set_cons_succ, i64_w, i32_w]
          rfl
        refine one_ (i := 3) (N := some 38) #[true, true, true, true, true, true, true, false, true, false, false] rfl rfl (one_of HT_.out (by kernel_rfl)) (by decide) (fun K hK => ?_)
        refine goes_ Tryd.func53 (by kernel_rfl) rfl #[.agg #[.pointer (some ⟨g, 0, none⟩)], .int .i64 ((64 - a - t : Nat) : Int)] (by rfl) rfl rfl (by simp only [List.map_toArray, List.map_cons, List.map_nil]; rfl) ?_
        with_reducible refine (dget_ok w0 _ _ g b q ((64 - a - t : Nat) : Int) (64 - a - t) HCZ.out hb HBY.out hq hgz HS10.out).mono ?_
        rintro e w11 ⟨rfl, hs11⟩
        refine ⟨_, rfl, ?_⟩
        rw [HR.out]
        have HS11 := Aside0.mk hs11
        clear hs11
        have r0 := (HS11.out.nth 3 rfl).cell 0 (v := .pointer (some ⟨g, 0, none⟩)) rfl
        have r1 := (HS11.out.nth 2 rfl).cell 0 (v := .int .i64 a) rfl
        have r2 := (HS11.out.nth 2 rfl).cell 1 (v := .int .i64 t) rfl
        refine hK.out _ _ ⟨r0, r1, r2⟩ (fun hHeld => ?_)
        clear hK K
        refine norm_ (a' := ?_) ?_ ?_
        rotate_left
        · show Act.put _ (some 38) _ = _
          simp only [Act.put, List.setIfInBounds_toArray, List.set_cons_zero, List.set_cons_succ, i64_w, i32_w]
          rfl
        refine pure_ (i := 7) (N := some 42) (v := ?_) (a' := ?_) #[true, true, true, true, true, true, true, true, true, false, false] rfl rfl (any_of HT_.out (by kernel_rfl)) (fun _ _ _ h => h) (Or.inl ⟨by rfl, ?_⟩) ?_ ?_
        rotate_left
        · intro w'
          go_simp
          with_reducible rfl
        rotate_left
        · simp only [Act.put, List.setIfInBounds_toArray, List.set_cons_zero, List.set_cons_succ, i64_w, i32_w]
          rfl
        refine pure_ (i := 9) (N := some 4) (v := ?_) (a' := ?_) #[true, true, true, true, true, true, true, true, true, true, false] rfl rfl (any_of HT_.out (by kernel_rfl)) (fun _ _ _ h => h) (Or.inl ⟨by rfl, ?_⟩) ?_ ?_
        rotate_left
        · intro w'
          go_simp
          with_reducible rfl
        rotate_left
        · simp only [Act.put, List.setIfInBounds_toArray, List.set_cons_zero, List.set_cons_succ, i64_w, i32_w]
          rfl
        refine last_ (i := 10) (N := none) #[true, true, true, true, true, true, true, true, true, true, true] rfl rfl (one_of HT_.out (by kernel_rfl)) (by decide) (fun K hK => ?_)
        have s0 := (HS11.out.nth 1 rfl).cell 0 (v := .int .i64 0) rfl
        have s1 := (HS11.out.nth 1 rfl).cell 1 (v := .int .i64 0) rfl
        have t0 := (HS11.out.nth 1 rfl).free 0
        have t1 := (HS11.out.nth 1 rfl).free 1
        refine skip_ (w1 := ?_) (by rfl) rfl ?_ ?_
        rotate_left
        · go_simp
          rfl
        refine hK.out _ _ ?_
        clear hK K
        refine done_ (done_of HT_.out (by kernel_rfl)) ?_
        have HY := Aside0.mk ((((HS11.out.nth 1 rfl).setBlk 0 (.int .i64 a)).setBlk 1 (.int .i64 t)))
        go_wp2
        refine bodyPost_ret (results_tc rfl _ _ gr 47 #[.int .i64 a, .int .i64 t] (0, 0) _ rfl HY.out.blk Tryd.underlying47 rfl (by kernel_rfl)) rfl ?_
        refine POut.ok HO.out ?_ (drop3 ((show Sat w0 _ (Blk gr _ 47 :: Rd g b (q + (64 - a - t)) :: Blk gx _ 47 :: Blk gd _ 70 :: L) from HY.out).nth 1 rfl))
        show Ending.returned (.tuple #[.int .u64 (IntKind.u64.wrap ((r : Int) * 2 ^ min (IntKind.u64.wrap (t : Int)).toNat 64)), .agg #[.int .i64 a, .int .i64 t]]) = _
        rw [HSL.out]
        rfl
      · have HO := Aside0.mk (show valueP b p x = none from by rw [HFO.out]; unfold finP; rw [gb_bad hgz]; rfl)
        refine start_ (n := 11) (S := fun w' => w'.cell? ⟨gd, 0, none⟩ = some (.pointer (some ⟨g, 0, none⟩)) ∧ w'.cell? ⟨gx, 0, none⟩ = some (.int .i64 a) ∧ w'.cell? ⟨gx, 1, none⟩ = some (.int .i64 t)) (ds := [10]) #[false, false, false, false, false, false, false, false, false, false, false] (by kernel_rfl) rfl rfl ⟨q0, q1, q2⟩ (fun hHeld => ?_)
        refine with_tabW Dv.tab8 Dv.bits8 (fun HT_ HW_ => ?_)
        refine pure_ (i := 4) (N := some 39) (v := ?_) (a' := ?_) #[false, false, false, false, true, false, false, false, false, false, false] rfl rfl (any_of HT_.out (by kernel_rfl)) (fun _ _ _ h => h) (Or.inl ⟨by rfl, ?_⟩) ?_ ?_
        rotate_left
        · intro w'
          go_simp
          with_reducible rfl
        rotate_left
        · simp only [Act.put, List.setIfInBounds_toArray, List.set_cons_zero, List.set_cons_succ, i64_w, i32_w]
          rfl
        refine take_ (i := 0) (N := some 35) (v := ?_) (a' := ?_) #[true, false, false, false, true, false, false, false, false, false, false] rfl rfl (take_ofW HT_.out HW_.out (by kernel_rfl)) (fun _ _ _ h => h) (Or.inl ⟨by rfl, ?_⟩) hHeld ?_ ?_
        rotate_left
        · rintro w' ⟨s0, s1, s2⟩
          go_simp
          with_reducible rfl
        rotate_left
        · simp only [Act.put, List.setIfInBounds_toArray, List.set_cons_zero, List.set_cons_succ, i64_w, i32_w]
          rfl
        refine take_ (i := 1) (N := some 36) (v := ?_) (a' := ?_) #[true, true, false, false, true, false, false, false, false, false, false] rfl rfl (take_ofW HT_.out HW_.out (by kernel_rfl)) (fun _ _ _ h => h) (Or.inl ⟨by rfl, ?_⟩) hHeld ?_ ?_
        rotate_left
        · rintro w' ⟨s0, s1, s2⟩
          go_simp
          with_reducible rfl
        rotate_left
        · simp only [Act.put, List.setIfInBounds_toArray, List.set_cons_zero, List.set_cons_succ, i64_w, i32_w]
          rfl
        refine take_ (i := 5) (N := some 40) (v := ?_) (a' := ?_) #[true, true, false, false, true, true, false, false, false, false, false] rfl rfl (take_ofW HT_.out HW_.out (by kernel_rfl)) (fun _ _ _ h => h) (Or.inl ⟨by rfl, ?_⟩) hHeld ?_ ?_
        rotate_left
        · rintro w' ⟨s0, s1, s2⟩
          go_simp
          with_reducible rfl
        rotate_left
        · simp only [Act.put, List.setIfInBounds_toArray, List.set_cons_zero, List.set_cons_succ, i64_w, i32_w]
          rfl
        refine take_ (i := 6) (N := some 41) (v := ?_) (a' := ?_) #[true, true, false, false, true, true, true, false, false, false, false] rfl rfl (take_ofW HT_.out HW_.out (by kernel_rfl)) (fun _ _ _ h => h) (Or.inl ⟨by rfl, ?_⟩) hHeld ?_ ?_
        rotate_left
        · rintro w' ⟨s0, s1, s2⟩
          go_simp
          with_reducible rfl
        rotate_left
        · simp only [Act.put, List.setIfInBounds_toArray, List.set_cons_zero, List.set_cons_succ, i64_w, i32_w]
          rfl
        refine take_ (i := 8) (N := some 43) (v := ?_) (a' := ?_) #[true, true, false, false, true, true, true, false, true, false, false] rfl rfl (take_ofW HT_.out HW_.out (by kernel_rfl)) (fun _ _ _ h => h) (Or.inl ⟨by rfl, ?_⟩) hHeld ?_ ?_
        rotate_left
        · rintro w' ⟨s0, s1, s2⟩
          go_simp
          with_reducible rfl
        rotate_left
        · simp only [Act.put, List.setIfInBounds_toArray, List.set_cons_zero, List.set_cons_succ, i64_w, i32_w]
          rfl
        refine one_ (i := 2) (N := some 37) #[true, true, true, false, true, true, true, false, true, false, false] rfl rfl (one_of HT_.out (by kernel_rfl)) (by decide) (fun K hK => ?_)
        refine goes_ Tryd.func48 (by kernel_rfl) rfl #[.agg #[.int .i64 a, .int .i64 t]] (by rfl) rfl rfl (by simp only [List.map_toArray, List.map_cons, List.map_nil]; rfl) ?_
        with_reducible refine (tsz_window_size.calls (a : Int) (t : Int) _ _ HSZ.out).mono ?_
        rintro e w10 ⟨rfl, hb10⟩
        refine ⟨_, rfl, ?_⟩
        have HS10 := Aside0.mk (HE.out.step hb10)
        clear hb10
        have p0 := (HS10.out.nth 3 rfl).cell 0 (v := .pointer (some ⟨g, 0, none⟩)) rfl
        have p1 := (HS10.out.nth 2 rfl).cell 0 (v := .int .i64 a) rfl
        have p2 := (HS10.out.nth 2 rfl).cell 1 (v := .int .i64 t) rfl
        refine hK.out _ _ ⟨p0, p1, p2⟩ (fun hHeld => ?_)
        clear hK K
        refine norm_ (a' := ?_) ?_ ?_
        rotate_left
        · show Act.put _ (some 37) _ = _
          simp only [Act.put, List.setIfInBounds_toArray, List.set_cons_zero, List.set_cons_succ, i64_w, i32_w]
          rfl
        refine one_ (i := 3) (N := some 38) #[true, true, true, true, true, true, true, false, true, false, false] rfl rfl (one_of HT_.out (by kernel_rfl)) (by decide) (fun K hK => ?_)
        refine goesP_ Tryd.func53 (by kernel_rfl) rfl #[.agg #[.pointer (some ⟨g, 0, none⟩)], .int .i64 ((64 - a - t : Nat) : Int)] (by rfl) rfl (by simp only [List.map_toArray, List.map_cons, List.map_nil]; rfl) [wrongE] ?_
        with_reducible refine (dget_bad w0 _ _ g b q ((64 - a - t : Nat) : Int) (64 - a - t) HCZ.out hb hq hgz HS10.out).mono ?_
        rintro e w11 ⟨rfl, hs11⟩
        refine ⟨rfl, ?_⟩
        have HS11 := Aside0.mk hs11
        clear hs11
        exact ⟨rfl, POut.bad HO.out rfl (drop3 HS11.out)⟩
  · have du : ((u : Int) == 1) = false := by rw [beq_eq_false_iff_ne]; omega
    have HO2 := Aside0.mk (show valueP b p x = heldP b q x from by rw [HO1.out, gb_ok hg2, hu]; simp only [Option.bind_some]; rw [if_neg hu0, hqe])
    clear hu HO1
    go_upto_region 6 with (first | (go_at_call 53; go_loud ((with_reducible refine (dget_ok w0 w2 _ g b p1 1 1 rfl hb HBY.out hp1 hg2 H2.out).mono ?_); rintro e w3 ⟨rfl, hs⟩; rw [HU.out]; have H3 := Aside0.mk (show Sat w0 w3 (Rd g b (p1 + 1) :: Blk gr #[.int .i64 0, .int .i64 0] 47 :: Blk gx #[.int .i64 (wl x), .int .i64 (wt x)] 47 :: Blk gd #[.pointer (some ⟨g, 0, none⟩)] 70 :: L) from hs); clear hs)))
    rw [hqe] at H3
    clear k1 H2 hqe
    cases x with
    | none =>
      have H4 := Aside0.mk (show Sat w0 w3 (Rd g b q :: Blk gr #[.int .i64 0, .int .i64 0] 47 :: Blk gx #[.int .i64 (-1), .int .i64 (-1)] 47 :: Blk gd #[.pointer (some ⟨g, 0, none⟩)] 70 :: L) from H3.out)
      have k2 := (H4.out.nth 2 rfl).cell 0 (v := .int .i64 (-1)) rfl
      have k3 := (H4.out.nth 2 rfl).cell 1 (v := .int .i64 (-1)) rfl
      clear H3
      go_wp2
      exact ⟨rfl, POut.bad HO2.out rfl (drop3 H4.out)⟩
    | some pr =>
      obtain ⟨a, t⟩ := pr
      have HAB := Aside0.mk (HX.out _ rfl).2
      have HFO := Aside0.mk (show valueP b p (some (a, t)) = finP b q a t from HO2.out)
      have H4 := Aside0.mk (show Sat w0 w3 (Rd g b q :: Blk gr #[.int .i64 0, .int .i64 0] 47 :: Blk gx #[.int .i64 a, .int .i64 t] 47 :: Blk gd #[.pointer (some ⟨g, 0, none⟩)] 70 :: L) from H3.out)
      have k2 := (H4.out.nth 2 rfl).cell 0 (v := .int .i64 a) rfl
      have k3 := (H4.out.nth 2 rfl).cell 1 (v := .int .i64 t) rfl
      have da : decide ((a : Int) < 0) = false := decide_eq_false (by omega)
      have dt : decide ((t : Int) < 0) = false := decide_eq_false (by omega)
      clear H3 HO2
      go_wp2
      have hab : a + t ≤ 63 := HAB.out
      have HSZ := Aside0.mk (size_f hab)
      have HCZ := Aside0.mk (cutN_nat (64 - a - t) (by omega))
      have HE := Aside0.mk (show Sat w0 w3.drew (Rd g b q :: Blk gr #[.int .i64 0, .int .i64 0] 47 :: Blk gx #[.int .i64 a, .int .i64 t] 47 :: Blk gd #[.pointer (some ⟨g, 0, none⟩)] 70 :: L) from H4.out.drew)
      have q0 := (HE.out.nth 3 rfl).cell 0 (v := .pointer (some ⟨g, 0, none⟩)) rfl
      have q1 := (HE.out.nth 2 rfl).cell 0 (v := .int .i64 a) rfl
      have q2 := (HE.out.nth 2 rfl).cell 1 (v := .int .i64 t) rfl
      by_cases hgz : 64 - a - t ≤ 8 * b.length - q
      · obtain ⟨r, hr⟩ : ∃ r, getN b q (64 - a - t) = r := ⟨_, rfl⟩
        have HO := Aside0.mk (show valueP b p (some (a, t)) = some ((r * 2 ^ t % 18446744073709551616, some (a, t)), q + (64 - a - t)) from by rw [HFO.out]; unfold finP; rw [gb_ok hgz, hr]; rfl)
        have HR := Aside0.mk hr
        have HSL := Aside0.mk (shl_value r t (by omega))
        clear hr
        refine start_ (n := 11) (S := fun w' => w'.cell? ⟨gd, 0, none⟩ = some (.pointer (some ⟨g, 0, none⟩)) ∧ w'.cell? ⟨gx, 0, none⟩ = some (.int .i64 a) ∧ w'.cell? ⟨gx, 1, none⟩ = some (.int .i64 t)) (ds := [10]) #[false, false, false, false, false, false, false, false, false, false, false] (by kernel_rfl) rfl rfl ⟨q0, q1, q2⟩ (fun hHeld => ?_)
        refine with_tabW Dv.tab8 Dv.bits8 (fun HT_ HW_ => ?_)
        refine pure_ (i := 4) (N := some 39) (v := ?_) (a' := ?_) #[false, false, false, false, true, false, false, false, false, false, false] rfl rfl (any_of HT_.out (by kernel_rfl)) (fun _ _ _ h => h) (Or.inl ⟨by rfl, ?_⟩) ?_ ?_
        rotate_left
        · intro w'
          go_simp
          with_reducible rfl
        rotate_left
        · simp only [Act.put, List.setIfInBounds_toArray, List.set_cons_zero, List.set_cons_succ, i64_w, i32_w]
          rfl
        refine take_ (i := 0) (N := some 35) (v := ?_) (a' := ?_) #[true, false, false, false, true, false, false, false, false, false, false] rfl rfl (take_ofW HT_.out HW_.out (by kernel_rfl)) (fun _ _ _ h => h) (Or.inl ⟨by rfl, ?_⟩) hHeld ?_ ?_
        rotate_left
        · rintro w' ⟨s0, s1, s2⟩
          go_simp
          with_reducible rfl
        rotate_left
        · simp only [Act.put, List.setIfInBounds_toArray, List.set_cons_zero, List.set_cons_succ, i64_w, i32_w]
          rfl
        refine take_ (i := 1) (N := some 36) (v := ?_) (a' := ?_) #[true, true, false, false, true, false, false, false, false, false, false] rfl rfl (take_ofW HT_.out HW_.out (by kernel_rfl)) (fun _ _ _ h => h) (Or.inl ⟨by rfl, ?_⟩) hHeld ?_ ?_
        rotate_left
        · rintro w' ⟨s0, s1, s2⟩
          go_simp
          with_reducible rfl
        rotate_left
        · simp only [Act.put, List.setIfInBounds_toArray, List.set_cons_zero, List.set_cons_succ, i64_w, i32_w]
          rfl
        refine take_ (i := 5) (N := some 40) (v := ?_) (a' := ?_) #[true, true, false, false, true, true, false, false, false, false, false] rfl rfl (take_ofW HT_.out HW_.out (by kernel_rfl)) (fun _ _ _ h => h) (Or.inl ⟨by rfl, ?_⟩) hHeld ?_ ?_
        rotate_left
        · rintro w' ⟨s0, s1, s2⟩
          go_simp
          with_reducible rfl
        rotate_left
        · simp only [Act.put, List.setIfInBounds_toArray, List.set_cons_zero, List.set_cons_succ, i64_w, i32_w]
          rfl
        refine take_ (i := 6) (N := some 41) (v := ?_) (a' := ?_) #[true, true, false, false, true, true, true, false, false, false, false] rfl rfl (take_ofW HT_.out HW_.out (by kernel_rfl)) (fun _ _ _ h => h) (Or.inl ⟨by rfl, ?_⟩) hHeld ?_ ?_
        rotate_left
        · rintro w' ⟨s0, s1, s2⟩
          go_simp
          with_reducible rfl
        rotate_left
        · simp only [Act.put, List.setIfInBounds_toArray, List.set_cons_zero, List.set_cons_succ, i64_w, i32_w]
          rfl
        refine take_ (i := 8) (N := some 43) (v := ?_) (a' := ?_) #[true, true, false, false, true, true, true, false, true, false, false] rfl rfl (take_ofW HT_.out HW_.out (by kernel_rfl)) (fun _ _ _ h => h) (Or.inl ⟨by rfl, ?_⟩) hHeld ?_ ?_
        rotate_left
        · rintro w' ⟨s0, s1, s2⟩
          go_simp
          with_reducible rfl
        rotate_left
        · simp only [Act.put, List.setIfInBounds_toArray, List.set_cons_zero, List.set_cons_succ, i64_w, i32_w]
          rfl
        refine one_ (i := 2) (N := some 37) #[true, true, true, false, true, true, true, false, true, false, false] rfl rfl (one_of HT_.out (by kernel_rfl)) (by decide) (fun K hK => ?_)
        refine goes_ Tryd.func48 (by kernel_rfl) rfl #[.agg #[.int .i64 a, .int .i64 t]] (by rfl) rfl rfl (by simp only [List.map_toArray, List.map_cons, List.map_nil]; rfl) ?_
        with_reducible refine (tsz_window_size.calls (a : Int) (t : Int) _ _ HSZ.out).mono ?_
        rintro e w10 ⟨rfl, hb10⟩
        refine ⟨_, rfl, ?_⟩
        have HS10 := Aside0.mk (HE.out.step hb10)
        clear hb10
        have p0 := (HS10.out.nth 3 rfl).cell 0 (v := .pointer (some ⟨g, 0, none⟩)) rfl
        have p1 := (HS10.out.nth 2 rfl).cell 0 (v := .int .i64 a) rfl
        have p2 := (HS10.out.nth 2 rfl).cell 1 (v := .int .i64 t) rfl
        refine hK.out _ _ ⟨p0, p1, p2⟩ (fun hHeld => ?_)
        clear hK K
        refine norm_ (a' := ?_) ?_ ?_
        rotate_left
        · show Act.put _ (some 37) _ = _
          simp only [Act.put, List.setIfInBounds_toArray, List.set_cons_zero, List.set_cons_succ, i64_w, i32_w]
          rfl
        refine one_ (i := 3) (N := some 38) #[true, true, true, true, true, true, true, false, true, false, false] rfl rfl (one_of HT_.out (by kernel_rfl)) (by decide) (fun K hK => ?_)
        refine goes_ Tryd.func53 (by kernel_rfl) rfl #[.agg #[.pointer (some ⟨g, 0, none⟩)], .int .i64 ((64 - a - t : Nat) : Int)] (by rfl) rfl rfl (by simp only [List.map_toArray, List.map_cons, List.map_nil]; rfl) ?_
        with_reducible refine (dget_ok w0 _ _ g b q ((64 - a - t : Nat) : Int) (64 - a - t) HCZ.out hb HBY.out hq hgz HS10.out).mono ?_
        rintro e w11 ⟨rfl, hs11⟩
        refine ⟨_, rfl, ?_⟩
        rw [HR.out]
        have HS11 := Aside0.mk hs11
        clear hs11
        have r0 := (HS11.out.nth 3 rfl).cell 0 (v := .pointer (some ⟨g, 0, none⟩)) rfl
        have r1 := (HS11.out.nth 2 rfl).cell 0 (v := .int .i64 a) rfl
        have r2 := (HS11.out.nth 2 rfl).cell 1 (v := .int .i64 t) rfl
        refine hK.out _ _ ⟨r0, r1, r2⟩ (fun hHeld => ?_)
        clear hK K
        refine norm_ (a' := ?_) ?_ ?_
        rotate_left
        · show Act.put _ (some 38) _ = _
          simp only [Act.put, List.setIfInBounds_toArray, List.set_cons_zero, List.set_cons_succ, i64_w, i32_w]
          rfl
        refine pure_ (i := 7) (N := some 42) (v := ?_) (a' := ?_) #[true, true, true, true, true, true, true, true, true, false, false] rfl rfl (any_of HT_.out (by kernel_rfl)) (fun _ _ _ h => h) (Or.inl ⟨by rfl, ?_⟩) ?_ ?_
        rotate_left
        · intro w'
          go_simp
          with_reducible rfl
        rotate_left
        · simp only [Act.put, List.setIfInBounds_toArray, List.set_cons_zero, List.set_cons_succ, i64_w, i32_w]
          rfl
        refine pure_ (i := 9) (N := some 4) (v := ?_) (a' := ?_) #[true, true, true, true, true, true, true, true, true, true, false] rfl rfl (any_of HT_.out (by kernel_rfl)) (fun _ _ _ h => h) (Or.inl ⟨by rfl, ?_⟩) ?_ ?_
        rotate_left
        · intro w'
          go_simp
          with_reducible rfl
        rotate_left
        · simp only [Act.put, List.setIfInBounds_toArray, List.set_cons_zero, List.set_cons_succ, i64_w, i32_w]
          rfl
        refine last_ (i := 10) (N := none) #[true, true, true, true, true, true, true, true, true, true, true] rfl rfl (one_of HT_.out (by kernel_rfl)) (by decide) (fun K hK => ?_)
        have s0 := (HS11.out.nth 1 rfl).cell 0 (v := .int .i64 0) rfl
        have s1 := (HS11.out.nth 1 rfl).cell 1 (v := .int .i64 0) rfl
        have t0 := (HS11.out.nth 1 rfl).free 0
        have t1 := (HS11.out.nth 1 rfl).free 1
        refine skip_ (w1 := ?_) (by rfl) rfl ?_ ?_
        rotate_left
        · go_simp
          rfl
        refine hK.out _ _ ?_
        clear hK K
        refine done_ (done_of HT_.out (by kernel_rfl)) ?_
        have HY := Aside0.mk ((((HS11.out.nth 1 rfl).setBlk 0 (.int .i64 a)).setBlk 1 (.int .i64 t)))
        go_wp2
        refine bodyPost_ret (results_tc rfl _ _ gr 47 #[.int .i64 a, .int .i64 t] (0, 0) _ rfl HY.out.blk Tryd.underlying47 rfl (by kernel_rfl)) rfl ?_
        refine POut.ok HO.out ?_ (drop3 ((show Sat w0 _ (Blk gr _ 47 :: Rd g b (q + (64 - a - t)) :: Blk gx _ 47 :: Blk gd _ 70 :: L) from HY.out).nth 1 rfl))
        show Ending.returned (.tuple #[.int .u64 (IntKind.u64.wrap ((r : Int) * 2 ^ min (IntKind.u64.wrap (t : Int)).toNat 64)), .agg #[.int .i64 a, .int .i64 t]]) = _
        rw [HSL.out]
        rfl
      · have HO := Aside0.mk (show valueP b p (some (a, t)) = none from by rw [HFO.out]; unfold finP; rw [gb_bad hgz]; rfl)
        refine start_ (n := 11) (S := fun w' => w'.cell? ⟨gd, 0, none⟩ = some (.pointer (some ⟨g, 0, none⟩)) ∧ w'.cell? ⟨gx, 0, none⟩ = some (.int .i64 a) ∧ w'.cell? ⟨gx, 1, none⟩ = some (.int .i64 t)) (ds := [10]) #[false, false, false, false, false, false, false, false, false, false, false] (by kernel_rfl) rfl rfl ⟨q0, q1, q2⟩ (fun hHeld => ?_)
        refine with_tabW Dv.tab8 Dv.bits8 (fun HT_ HW_ => ?_)
        refine pure_ (i := 4) (N := some 39) (v := ?_) (a' := ?_) #[false, false, false, false, true, false, false, false, false, false, false] rfl rfl (any_of HT_.out (by kernel_rfl)) (fun _ _ _ h => h) (Or.inl ⟨by rfl, ?_⟩) ?_ ?_
        rotate_left
        · intro w'
          go_simp
          with_reducible rfl
        rotate_left
        · simp only [Act.put, List.setIfInBounds_toArray, List.set_cons_zero, List.set_cons_succ, i64_w, i32_w]
          rfl
        refine take_ (i := 0) (N := some 35) (v := ?_) (a' := ?_) #[true, false, false, false, true, false, false, false, false, false, false] rfl rfl (take_ofW HT_.out HW_.out (by kernel_rfl)) (fun _ _ _ h => h) (Or.inl ⟨by rfl, ?_⟩) hHeld ?_ ?_
        rotate_left
        · rintro w' ⟨s0, s1, s2⟩
          go_simp
          with_reducible rfl
        rotate_left
        · simp only [Act.put, List.setIfInBounds_toArray, List.set_cons_zero, List.set_cons_succ, i64_w, i32_w]
          rfl
        refine take_ (i := 1) (N := some 36) (v := ?_) (a' := ?_) #[true, true, false, false, true, false, false, false, false, false, false] rfl rfl (take_ofW HT_.out HW_.out (by kernel_rfl)) (fun _ _ _ h => h) (Or.inl ⟨by rfl, ?_⟩) hHeld ?_ ?_
        rotate_left
        · rintro w' ⟨s0, s1, s2⟩
          go_simp
          with_reducible rfl
        rotate_left
        · simp only [Act.put, List.setIfInBounds_toArray, List.set_cons_zero, List.set_cons_succ, i64_w, i32_w]
          rfl
        refine take_ (i := 5) (N := some 40) (v := ?_) (a' := ?_) #[true, true, false, false, true, true, false, false, false, false, false] rfl rfl (take_ofW HT_.out HW_.out (by kernel_rfl)) (fun _ _ _ h => h) (Or.inl ⟨by rfl, ?_⟩) hHeld ?_ ?_
        rotate_left
        · rintro w' ⟨s0, s1, s2⟩
          go_simp
          with_reducible rfl
        rotate_left
        · simp only [Act.put, List.setIfInBounds_toArray, List.set_cons_zero, List.set_cons_succ, i64_w, i32_w]
          rfl
        refine take_ (i := 6) (N := some 41) (v := ?_) (a' := ?_) #[true, true, false, false, true, true, true, false, false, false, false] rfl rfl (take_ofW HT_.out HW_.out (by kernel_rfl)) (fun _ _ _ h => h) (Or.inl ⟨by rfl, ?_⟩) hHeld ?_ ?_
        rotate_left
        · rintro w' ⟨s0, s1, s2⟩
          go_simp
          with_reducible rfl
        rotate_left
        · simp only [Act.put, List.setIfInBounds_toArray, List.set_cons_zero, List.set_cons_succ, i64_w, i32_w]
          rfl
        refine take_ (i := 8) (N := some 43) (v := ?_) (a' := ?_) #[true, true, false, false, true, true, true, false, true, false, false] rfl rfl (take_ofW HT_.out HW_.out (by kernel_rfl)) (fun _ _ _ h => h) (Or.inl ⟨by rfl, ?_⟩) hHeld ?_ ?_
        rotate_left
        · rintro w' ⟨s0, s1, s2⟩
          go_simp
          with_reducible rfl
        rotate_left
        · simp only [Act.put, List.setIfInBounds_toArray, List.set_cons_zero, List.set_cons_succ, i64_w, i32_w]
          rfl
        refine one_ (i := 2) (N := some 37) #[true, true, true, false, true, true, true, false, true, false, false] rfl rfl (one_of HT_.out (by kernel_rfl)) (by decide) (fun K hK => ?_)
        refine goes_ Tryd.func48 (by kernel_rfl) rfl #[.agg #[.int .i64 a, .int .i64 t]] (by rfl) rfl rfl (by simp only [List.map_toArray, List.map_cons, List.map_nil]; rfl) ?_
        with_reducible refine (tsz_window_size.calls (a : Int) (t : Int) _ _ HSZ.out).mono ?_
        rintro e w10 ⟨rfl, hb10⟩
        refine ⟨_, rfl, ?_⟩
        have HS10 := Aside0.mk (HE.out.step hb10)
        clear hb10
        have p0 := (HS10.out.nth 3 rfl).cell 0 (v := .pointer (some ⟨g, 0, none⟩)) rfl
        have p1 := (HS10.out.nth 2 rfl).cell 0 (v := .int .i64 a) rfl
        have p2 := (HS10.out.nth 2 rfl).cell 1 (v := .int .i64 t) rfl
        refine hK.out _ _ ⟨p0, p1, p2⟩ (fun hHeld => ?_)
        clear hK K
        refine norm_ (a' := ?_) ?_ ?_
        rotate_left
        · show Act.put _ (some 37) _ = _
          simp only [Act.put, List.setIfInBounds_toArray, List.set_cons_zero, List.set_cons_succ, i64_w, i32_w]
          rfl
        refine one_ (i := 3) (N := some 38) #[true, true, true, true, true, true, true, false, true, false, false] rfl rfl (one_of HT_.out (by kernel_rfl)) (by decide) (fun K hK => ?_)
        refine goesP_ Tryd.func53 (by kernel_rfl) rfl #[.agg #[.pointer (some ⟨g, 0, none⟩)], .int .i64 ((64 - a - t : Nat) : Int)] (by rfl) rfl (by simp only [List.map_toArray, List.map_cons, List.map_nil]; rfl) [wrongE] ?_
        with_reducible refine (dget_bad w0 _ _ g b q ((64 - a - t : Nat) : Int) (64 - a - t) HCZ.out hb hq hgz HS10.out).mono ?_
        rintro e w11 ⟨rfl, hs11⟩
        refine ⟨rfl, ?_⟩
        have HS11 := Aside0.mk hs11
        clear hs11
        exact ⟨rfl, POut.bad HO.out rfl (drop3 HS11.out)⟩
end Go.Proofs.YtmnlbedgkjnodaaDoor.TdW
namespace Go.Proofs.YtmnlbedgkjnodaaDoor.RfW
open Go.RowKit Go.Proofs.YtmnlbedgkjnodaaDoorW.PrintWords Go.Proofs.YtmnlbedgkjnodaaDoorW.PrintLast Go.Proofs.YtmnlbedgkjnodaaDoorW.PrintMore Go.Proofs.YtmnlbedgkjnodaaDoor.QB Go.Proofs.YtmnlbedgkjnodaaDoor.Sl Go.Proofs.YtmnlbedgkjnodaaDoor.Bt Go.Proofs.YtmnlbedgkjnodaaDoor.BtR Go.Proofs.YtmnlbedgkjnodaaDoor.WrW Go.Proofs.YtmnlbedgkjnodaaDoor.RdW Go.Proofs.YtmnlbedgkjnodaaDoor.TzP Go.Proofs.YtmnlbedgkjnodaaDoor.TeP Go.Proofs.YtmnlbedgkjnodaaDoor.TdP
theorem drop2 {w0 w : World} {A B C : Asn} {L : List Asn} (h : Sat w0 w (A :: B :: C :: L)) : Sat w0 w (A :: L) :=
  ((h.nth 1 rfl).tail.nth 1 rfl).tail
theorem drop3b {w0 w : World} {A B C : Asn} {L : List Asn} (h : Sat w0 w (A :: B :: C :: L)) : Sat w0 w ([A, B] ++ L) :=
  (((h.nth 2 rfl).tail) : Sat w0 w (A :: B :: L))
theorem shl2 (r t : Nat) (ht : t ≤ 63) : IntKind.u64.wrap ((r : Int) * 2 ^ min t 64) = ((r * 2 ^ t % 18446744073709551616 : Nat) : Int) := by
  rw [Nat.min_eq_left (by omega), IntKind.wrap_u64, Int.natCast_emod, Int.natCast_mul, Int.natCast_pow]
  rfl
def winC : Win → Array Value
  | none => #[.bool false, .int .i64 0, .int .i64 0]
  | some p => #[.bool true, .int .i64 p.1, .int .i64 p.2]
def heldR (s : RS) : Win → (Nat × Win) × RS
  | none => ((0, none), (s.1, true))
  | some p => (((getR s ((64 - p.1 - p.2 : Nat) : Int)).1 * 2 ^ p.2 % 18446744073709551616, some p), (getR s ((64 - p.1 - p.2 : Nat) : Int)).2)
def valueR (s : RS) (w : Win) : (Nat × Win) × RS :=
  if (getR s 1).1 = 0 then ((0, w), (getR s 1).2) else
  if (getR (getR s 1).2 1).1 = 1 then
    if 63 < (getR (getR (getR s 1).2 1).2 5).1 + (getR (getR (getR (getR s 1).2 1).2 5).2 6).1 then ((0, none), ((getR (getR (getR (getR s 1).2 1).2 5).2 6).2.1, true))
    else heldR (getR (getR (getR (getR s 1).2 1).2 5).2 6).2 (some ((getR (getR (getR s 1).2 1).2 5).1, 63 - (getR (getR (getR s 1).2 1).2 5).1 - (getR (getR (getR (getR s 1).2 1).2 5).2 6).1))
  else heldR (getR (getR s 1).2 1).2 w
def Rv.T2 : Bool × List (List Nat × List Nat) := (true, [([], []), ([], []), ([0, 1, 0, 1], [0])])
def Rv.B2 : List Nat := [0, 0, 3]
theorem Rv.tab2 : rtab .any (opsOf Tryd.f43 2) = Rv.T2 := by kernel_rfl
theorem Rv.bits2 : waitsOk Rv.T2.2 Rv.B2 = true := by kernel_rfl
def Rv.T10 : Bool × List (List Nat × List Nat) := (true, [([], []), ([], []), ([1], [1]), ([2], [2]), ([], []), ([4], [4]), ([3, 5], [3, 5]), ([0, 6], [0, 6]), ([], []), ([8], [8]), ([7, 9], [7, 9]), ([], []), ([10, 7, 0, 1, 2, 3, 4, 5, 6, 7, 8, 9, 10], [10]), ([11, 12, 0, 1, 2, 3, 4, 5, 6, 7, 8, 9, 10, 11, 12], [11])])
def Rv.B10 : List Nat := [0, 0, 2, 6, 0, 16, 62, 127, 0, 256, 1023, 0, 2047, 8191]
theorem Rv.tab10 : rtab .any (opsOf Tryd.f43 10) = Rv.T10 := by kernel_rfl
theorem Rv.bits10 : waitsOk Rv.T10.2 Rv.B10 = true := by kernel_rfl
set_option maxHeartbeats 4000000 in
set_option maxRecDepth 20000 in
theorem value_calls (w0 w : World) (L : List Asn) (g : Nat) (s : RS) (hf : FineS s) (x : Win) (hx : x.Ok) (h : Sat w0 w (Rb g s.1 s.2 :: L)) :
    Calls Tryd.prog 43 #[.pointer (some ⟨g, 0, none⟩), .agg (winC x)] w fun e w' => e = .returned (.tuple #[.int .u64 ((valueR s x).1.1 : Int), .agg (winC (valueR s x).1.2)]) ∧ Sat w0 w' (Rb g (valueR s x).2.1 (valueR s x).2.2 :: L) := by
  obtain ⟨c0, c1, c2, hwc⟩ : ∃ c0 c1 c2, winC x = #[.bool c0, .int .i64 c1, .int .i64 c2] := by
    cases x with
    | none => exact ⟨_, _, _, rfl⟩
    | some p => exact ⟨_, _, _, rfl⟩
  have H0 : Aside0 (Sat w0 ((w.alloc (.cells #[.bool c0, .int .i64 c1, .int .i64 c2] 55)).alloc (.cells #[.bool false, .int .i64 0, .int .i64 0] 55)) (Rb g s.1 s.2 :: Blk w.heap.size #[.bool c0, .int .i64 c1, .int .i64 c2] 55 :: Blk (w.heap.size + 1) #[.bool false, .int .i64 0, .int .i64 0] 55 :: L)) := ⟨by
    have h1 := ((h.newBlk #[.bool c0, .int .i64 c1, .int .i64 c2] 55).newBlk #[.bool false, .int .i64 0, .int .i64 0] 55)
    rw [alloc_size] at h1
    exact (h1.nth 1 rfl).nth 2 rfl⟩
  rw [hwc]
  have HW := Aside0.mk hwc
  have HF := Aside0.mk hf
  have HX := Aside0.mk hx
  clear h hwc hf hx
  obtain ⟨x1, sa1, h1⟩ := getR_named s 1
  obtain ⟨x2, sa2, h2⟩ := getR_named sa1 1
  obtain ⟨a, sa5, h5⟩ := getR_named sa2 5
  obtain ⟨n, sa6, h6⟩ := getR_named sa5 6
  have f1 := getR_fine HF.out 1
  rw [h1] at f1
  have f2 := getR_fine f1 1
  rw [h2] at f2
  have f5 := getR_fine f2 5
  rw [h5] at f5
  have f6 := getR_fine f5 6
  rw [h6] at f6
  have l5 := getR_lt f2 5
  have l6 := getR_lt f5 6
  rw [h5] at l5
  rw [h6] at l6
  simp only at f1 f2 f5 f6 l5 l6
  have l5' : a < 32 := l5
  have l6' : n < 64 := l6
  have HV := Aside0.mk (show valueR s x = if x1 = 0 then ((0, x), sa1) else if x2 = 1 then (if 63 < a + n then ((0, none), (sa6.1, true)) else heldR sa6 (some (a, 63 - a - n))) else heldR sa2 x by
    unfold valueR
    simp only [h1, h2, h5, h6])
  have F1 := Aside0.mk f1
  have F2 := Aside0.mk f2
  have F5 := Aside0.mk f5
  have F6 := Aside0.mk f6
  have R1 := Aside0.mk h1
  have R2 := Aside0.mk h2
  have R5 := Aside0.mk h5
  have R6 := Aside0.mk h6
  have LA := Aside0.mk l5'
  have LN := Aside0.mk l6'
  clear f1 f2 f5 f6 h1 h2 h5 h6 l5 l6 l5' l6'
  go_enter Tryd.func43, Tryd.ntmps43
  go_upto_region 1 with (fail)
  generalize (w.alloc (.cells #[.bool c0, .int .i64 c1, .int .i64 c2] 55)).alloc (.cells #[.bool false, .int .i64 0, .int .i64 0] 55) = wb at H0 ⊢
  generalize w.heap.size + 1 = gr at H0 ⊢
  generalize w.heap.size = gx at H0 ⊢
  have H := H0
  clear H0
  by_cases q1 : x1 = 0
  · have p1 : ((x1 : Int) == 0) = true := by rw [beq_iff_eq]; omega
    have Q1 := Aside0.mk q1
    clear q1
    go_wp2_with (first | (go_at_call 41; go_loud ((first | (with_reducible refine (get_eq R1.out (by omega) (by omega) HF.out H.out).mono ?_)); rintro e w1 ⟨rfl, hs⟩; clear H; have H := Aside0.mk hs; clear hs)))
    have HDr := Aside0.mk H.out.drew
    have q0 := (HDr.out.nth 1 rfl).cell 0 (v := .bool c0) rfl
    have q1 := (HDr.out.nth 1 rfl).cell 1 (v := .int .i64 c1) rfl
    have q2 := (HDr.out.nth 1 rfl).cell 2 (v := .int .i64 c2) rfl
    refine start_ (n := 3) (S := fun w' => w'.cell? ⟨gx, 0, none⟩ = some (.bool c0) ∧ w'.cell? ⟨gx, 1, none⟩ = some (.int .i64 c1) ∧ w'.cell? ⟨gx, 2, none⟩ = some (.int .i64 c2)) (ds := [2]) #[false, false, false] (by kernel_rfl) rfl rfl ⟨q0, q1, q2⟩ (fun hHeld => ?_)
    refine with_tabW Rv.tab2 Rv.bits2 (fun HT_ HW_ => ?_)
    refine pure_ (i := 1) (N := some 4) (v := ?_) (a' := ?_) #[false, true, false] rfl rfl (any_of HT_.out (by kernel_rfl)) (fun _ _ _ h => h) (Or.inl ⟨by rfl, ?_⟩) ?_ ?_
    rotate_left
    · intro w'
      go_simp
      with_reducible rfl
    rotate_left
    · simp only [Act.put, List.setIfInBounds_toArray, List.set_cons_zero, List.set_cons_succ, i64_w, i32_w]
      rfl
    refine take_ (i := 0) (N := some 11) (v := ?_) (a' := ?_) #[true, true, false] rfl rfl (take_ofW HT_.out HW_.out (by kernel_rfl)) (fun _ _ _ h => h) (Or.inl ⟨by rfl, ?_⟩) hHeld ?_ ?_
    rotate_left
    · rintro w' ⟨s0, s1, s2⟩
      go_simp
      with_reducible rfl
    rotate_left
    · simp only [Act.put, List.setIfInBounds_toArray, List.set_cons_zero, List.set_cons_succ, i64_w, i32_w]
      rfl
    refine last_ (i := 2) (N := none) #[true, true, true] rfl rfl (one_of HT_.out (by kernel_rfl)) (by decide) (fun K hK => ?_)
    have s0 := (H.out.nth 2 rfl).cell 0 (v := .bool false) rfl
    have s1 := (H.out.nth 2 rfl).cell 1 (v := .int .i64 0) rfl
    have s2 := (H.out.nth 2 rfl).cell 2 (v := .int .i64 0) rfl
    have t0 := (H.out.nth 2 rfl).free 0
    have t1 := (H.out.nth 2 rfl).free 1
    have t2 := (H.out.nth 2 rfl).free 2
    refine skip_ (w1 := ?_) (by rfl) rfl ?_ ?_
    rotate_left
    · go_simp
      rfl
    refine hK.out _ _ ?_
    clear hK K
    refine done_ (done_of HT_.out (by kernel_rfl)) ?_
    have HY := Aside0.mk ((((H.out.nth 2 rfl).setBlk 0 (.bool c0)).setBlk 1 (.int .i64 c1)).setBlk 2 (.int .i64 c2)).drew
    go_wp2
    refine bodyPost_ret (results_tc rfl _ _ gr 55 #[.bool c0, .int .i64 c1, .int .i64 c2] (0, 0) _ rfl HY.out.blk Tryd.underlying55 rfl (by kernel_rfl)) rfl ?_
    rw [HV.out, if_pos Q1.out]
    refine ⟨by rw [HW.out]; rfl, drop2 ((show Sat w0 _ (Blk gr _ 55 :: Rb g sa1.1 sa1.2 :: Blk gx _ 55 :: L) from HY.out).nth 1 rfl)⟩
  · have p1 : ((x1 : Int) == 0) = false := by rw [beq_eq_false_iff_ne]; omega
    have Q1 := Aside0.mk q1
    clear q1
    by_cases q2 : x2 = 1
    · have p2 : ((x2 : Int) == 1) = true := by rw [beq_iff_eq]; omega
      have Q2 := Aside0.mk q2
      clear q2
      have ha := LA.out
      have hn := LN.out
      obtain ⟨tr, htr⟩ : ∃ tr : Int, 63 - (a : Int) - (n : Int) = tr := ⟨_, rfl⟩
      have e0 : IntKind.i64.wrap (a : Int) = (a : Int) := by rw [IntKind.wrap_i64]; omega
      have e1 : IntKind.i64.wrap (n : Int) = (n : Int) := by rw [IntKind.wrap_i64]; omega
      have e2 : IntKind.i64.wrap ((n : Int) + 1) = (n : Int) + 1 := by rw [IntKind.wrap_i64]; omega
      have e3 : IntKind.i64.wrap (64 - (a : Int)) = 64 - (a : Int) := by rw [IntKind.wrap_i64]; omega
      have e4 : IntKind.i64.wrap (64 - (a : Int) - ((n : Int) + 1)) = tr := by rw [IntKind.wrap_i64]; omega
      have HTR := Aside0.mk htr
      clear htr ha hn
      go_upto_region 6 with (first | (go_at_call 41; go_loud ((first | (with_reducible refine (get_eq R1.out (by omega) (by omega) HF.out H.out).mono ?_) | (with_reducible refine (get_eq R2.out (by omega) (by omega) F1.out H.out).mono ?_) | (with_reducible refine (get_eq R5.out (by omega) (by omega) F2.out H.out).mono ?_) | (with_reducible refine (get_eq R6.out (by omega) (by omega) F5.out H.out).mono ?_)); rintro e w1 ⟨rfl, hs⟩; clear H; have H := Aside0.mk hs; clear hs)))
      have s0 := (H.out.nth 1 rfl).cell 0 (v := .bool c0) rfl
      have s1_ := (H.out.nth 1 rfl).cell 1 (v := .int .i64 c1) rfl
      have s2_ := (H.out.nth 1 rfl).cell 2 (v := .int .i64 c2) rfl
      have t0 := (H.out.nth 1 rfl).free 0
      have t1 := (H.out.nth 1 rfl).free 1
      have t2 := (H.out.nth 1 rfl).free 2
      have H7 : Aside0 (Sat w0 (((w1.setCell ⟨gx, 0, none⟩ (.bool true)).setCell ⟨gx, 1, none⟩ (.int .i64 a)).setCell ⟨gx, 2, none⟩ (.int .i64 tr)) (Rb g sa6.1 sa6.2 :: Blk gx #[.bool true, .int .i64 a, .int .i64 tr] 55 :: Blk gr #[.bool false, .int .i64 0, .int .i64 0] 55 :: L)) := ⟨((((H.out.nth 1 rfl).setBlk 0 (.bool true)).setBlk 1 (.int .i64 a)).setBlk 2 (.int .i64 tr)).nth 1 rfl⟩
      go_upto_region 7 with (fail)
      clear s0 s1_ s2_ t0 t1 t2
      generalize ((w1.setCell ⟨gx, 0, none⟩ (.bool true)).setCell ⟨gx, 1, none⟩ (.int .i64 a)).setCell ⟨gx, 2, none⟩ (.int .i64 tr) = w7 at H7 ⊢
      clear H e0 e1 e2 e3 e4
      have H := H7
      clear H7
      by_cases hbad : 63 < a + n
      · have HVV := Aside0.mk (show valueR s x = ((0, none), (sa6.1, true)) by rw [HV.out, if_neg Q1.out, if_pos Q2.out, if_pos hbad])
        have dt : decide (tr < 0) = true := decide_eq_true (by have := HTR.out; omega)
        clear hbad
        have k0 := (H.out.nth 1 rfl).cell 0 (v := .bool true) rfl
        have k2 := (H.out.nth 1 rfl).cell 2 (v := .int .i64 tr) rfl
        obtain ⟨vb, hb1⟩ := H.out.some_
        have hb2 := hb1.opened
        have u0 := hb2.cell 1 rfl
        have u1 := hb2.free 1
        have hb3 := hb2.setBlk 1 (.bool true)
        have hb4 : Sat w0 _ (Blk gr #[.bool false, .int .i64 0, .int .i64 0] 55 :: Blk g #[vb, .bool true] 76 :: RowQ (Kd.int .u8) 5 vb sa6.1 :: Blk gx #[.bool true, .int .i64 a, .int .i64 tr] 55 :: L) := hb3.nth 3 rfl
        have v0 := hb4.cell 0 rfl
        have v1 := hb4.cell 1 rfl
        have v2 := hb4.cell 2 rfl
        have v3 := hb4.free 0
        have v4 := hb4.free 1
        have v5 := hb4.free 2
        have HY := Aside0.mk (((hb4.setBlk 0 (.bool false)).setBlk 1 (.int .i64 0)).setBlk 2 (.int .i64 0))
        clear hb1 hb2 hb3 hb4
        go_wp2
        refine bodyPost_ret (results_tc rfl _ _ gr 55 #[.bool false, .int .i64 0, .int .i64 0] (0, 0) _ rfl HY.out.blk Tryd.underlying55 rfl (by kernel_rfl)) rfl ?_
        rw [HVV.out]
        have hz := (show Sat w0 _ (Blk gr _ 55 :: Blk g #[vb, .bool true] 76 :: RowQ (Kd.int .u8) 5 vb sa6.1 :: Blk gx _ 55 :: L) from HY.out).tail
        exact ⟨rfl, Sat.any vb (Sat.closed (drop3b hz))⟩
      · obtain ⟨t, ht⟩ : ∃ t : Nat, 63 - a - n = t := ⟨_, rfl⟩
        have htt : tr = (t : Int) := by have := HTR.out; omega
        have HVV := Aside0.mk (show valueR s x = heldR sa6 (some (a, t)) by rw [HV.out, if_neg Q1.out, if_pos Q2.out, if_neg hbad, ht])
        have HAT := Aside0.mk (show a + t ≤ 63 from by omega)
        subst htt
        have dt : decide ((t : Int) < 0) = false := decide_eq_false (by omega)
        clear HTR ht hbad
        have k0 := (H.out.nth 1 rfl).cell 0 (v := .bool true) rfl
        have k2 := (H.out.nth 1 rfl).cell 2 (v := .int .i64 t) rfl
        go_wp2
        have hat := HAT.out
        have e3 : IntKind.i64.wrap (64 - (a : Int)) = 64 - (a : Int) := by rw [IntKind.wrap_i64]; omega
        have e4 : IntKind.i64.wrap (64 - (a : Int) - (t : Int)) = ((64 - a - t : Nat) : Int) := by rw [IntKind.wrap_i64]; omega
        have HE := Aside0.mk H.out.drew
        have q0 := (HE.out.nth 1 rfl).cell 0 (v := .bool true) rfl
        have q1 := (HE.out.nth 1 rfl).cell 1 (v := .int .i64 a) rfl
        have q2 := (HE.out.nth 1 rfl).cell 2 (v := .int .i64 t) rfl
        obtain ⟨z, sz, hz⟩ := getR_named sa6 ((64 - a - t : Nat) : Int)
        have RZ := Aside0.mk hz
        have FZ := F6
        have HSL := Aside0.mk (shl2 z t (by omega))
        clear hz hat
        refine start_ (n := 14) (S := fun w' => w'.cell? ⟨gx, 0, none⟩ = some (.bool true) ∧ w'.cell? ⟨gx, 1, none⟩ = some (.int .i64 a) ∧ w'.cell? ⟨gx, 2, none⟩ = some (.int .i64 t)) (ds := [13]) #[false, false, false, false, false, false, false, false, false, false, false, false, false, false] (by kernel_rfl) rfl rfl ⟨q0, q1, q2⟩ (fun hHeld => ?_)
        refine with_tabW Rv.tab10 Rv.bits10 (fun HT_ HW_ => ?_)
        refine pure_ (i := 0) (N := some 40) (v := ?_) (a' := ?_) #[true, false, false, false, false, false, false, false, false, false, false, false, false, false] rfl rfl (any_of HT_.out (by kernel_rfl)) (fun _ _ _ h => h) (Or.inl ⟨by rfl, ?_⟩) ?_ ?_
        rotate_left
        · intro w'
          go_simp
          with_reducible rfl
        rotate_left
        · simp only [Act.put, List.setIfInBounds_toArray, List.set_cons_zero, List.set_cons_succ, i64_w, i32_w]
          rfl
        refine pure_ (i := 1) (N := some 41) (v := ?_) (a' := ?_) #[true, true, false, false, false, false, false, false, false, false, false, false, false, false] rfl rfl (any_of HT_.out (by kernel_rfl)) (fun _ _ _ h => h) (Or.inl ⟨by rfl, ?_⟩) ?_ ?_
        rotate_left
        · intro w'
          go_simp
          with_reducible rfl
        rotate_left
        · simp only [Act.put, List.setIfInBounds_toArray, List.set_cons_zero, List.set_cons_succ, i64_w, i32_w]
          rfl
        refine pure_ (i := 4) (N := some 44) (v := ?_) (a' := ?_) #[true, true, false, false, true, false, false, false, false, false, false, false, false, false] rfl rfl (any_of HT_.out (by kernel_rfl)) (fun _ _ _ h => h) (Or.inl ⟨by rfl, ?_⟩) ?_ ?_
        rotate_left
        · intro w'
          go_simp
          with_reducible rfl
        rotate_left
        · simp only [Act.put, List.setIfInBounds_toArray, List.set_cons_zero, List.set_cons_succ, i64_w, i32_w]
          rfl
        refine pure_ (i := 8) (N := some 48) (v := ?_) (a' := ?_) #[true, true, false, false, true, false, false, false, true, false, false, false, false, false] rfl rfl (any_of HT_.out (by kernel_rfl)) (fun _ _ _ h => h) (Or.inl ⟨by rfl, ?_⟩) ?_ ?_
        rotate_left
        · intro w'
          go_simp
          with_reducible rfl
        rotate_left
        · simp only [Act.put, List.setIfInBounds_toArray, List.set_cons_zero, List.set_cons_succ, i64_w, i32_w]
          rfl
        refine take_ (i := 2) (N := some 42) (v := ?_) (a' := ?_) #[true, true, true, false, true, false, false, false, true, false, false, false, false, false] rfl rfl (take_ofW HT_.out HW_.out (by kernel_rfl)) (fun _ _ _ h => h) (Or.inl ⟨by rfl, ?_⟩) hHeld ?_ ?_
        rotate_left
        · rintro w' ⟨s0, s1, s2⟩
          go_simp
          with_reducible rfl
        rotate_left
        · simp only [Act.put, List.setIfInBounds_toArray, List.set_cons_zero, List.set_cons_succ, i64_w, i32_w]
          rfl
        refine pure_ (i := 3) (N := some 43) (v := ?_) (a' := ?_) #[true, true, true, true, true, false, false, false, true, false, false, false, false, false] rfl rfl (any_of HT_.out (by kernel_rfl)) (fun _ _ _ h => h) (Or.inl ⟨by rfl, ?_⟩) ?_ ?_
        rotate_left
        · intro w'
          go_simp
          with_reducible rfl
        rotate_left
        · simp only [Act.put, List.setIfInBounds_toArray, List.set_cons_zero, List.set_cons_succ, i64_w, i32_w]
          rfl
        refine take_ (i := 5) (N := some 45) (v := ?_) (a' := ?_) #[true, true, true, true, true, true, false, false, true, false, false, false, false, false] rfl rfl (take_ofW HT_.out HW_.out (by kernel_rfl)) (fun _ _ _ h => h) (Or.inl ⟨by rfl, ?_⟩) hHeld ?_ ?_
        rotate_left
        · rintro w' ⟨s0, s1, s2⟩
          go_simp
          with_reducible rfl
        rotate_left
        · simp only [Act.put, List.setIfInBounds_toArray, List.set_cons_zero, List.set_cons_succ, i64_w, i32_w]
          rfl
        refine pure_ (i := 6) (N := some 46) (v := ?_) (a' := ?_) #[true, true, true, true, true, true, true, false, true, false, false, false, false, false] rfl rfl (any_of HT_.out (by kernel_rfl)) (fun _ _ _ h => h) (Or.inl ⟨by rfl, ?_⟩) ?_ ?_
        rotate_left
        · intro w'
          go_simp
          with_reducible rfl
        rotate_left
        · simp only [Act.put, List.setIfInBounds_toArray, List.set_cons_zero, List.set_cons_succ, i64_w, i32_w]
          rfl
        refine take_ (i := 9) (N := some 49) (v := ?_) (a' := ?_) #[true, true, true, true, true, true, true, false, true, true, false, false, false, false] rfl rfl (take_ofW HT_.out HW_.out (by kernel_rfl)) (fun _ _ _ h => h) (Or.inl ⟨by rfl, ?_⟩) hHeld ?_ ?_
        rotate_left
        · rintro w' ⟨s0, s1, s2⟩
          go_simp
          with_reducible rfl
        rotate_left
        · simp only [Act.put, List.setIfInBounds_toArray, List.set_cons_zero, List.set_cons_succ, i64_w, i32_w]
          rfl
        refine take_ (i := 11) (N := some 51) (v := ?_) (a' := ?_) #[true, true, true, true, true, true, true, false, true, true, false, true, false, false] rfl rfl (take_ofW HT_.out HW_.out (by kernel_rfl)) (fun _ _ _ h => h) (Or.inl ⟨by rfl, ?_⟩) hHeld ?_ ?_
        rotate_left
        · rintro w' ⟨s0, s1, s2⟩
          go_simp
          with_reducible rfl
        rotate_left
        · simp only [Act.put, List.setIfInBounds_toArray, List.set_cons_zero, List.set_cons_succ, i64_w, i32_w]
          rfl
        refine one_ (i := 7) (N := some 47) #[true, true, true, true, true, true, true, true, true, true, false, true, false, false] rfl rfl (one_of HT_.out (by kernel_rfl)) (by decide) (fun K hK => ?_)
        refine goes_ Tryd.func41 (by kernel_rfl) rfl #[.pointer (some ⟨g, 0, none⟩), .int .i64 ((64 - a - t : Nat) : Int)] (by rfl) rfl rfl (by simp only [List.map_toArray, List.map_cons, List.map_nil]; rfl) ?_
        with_reducible refine (get_eq RZ.out (by omega) (by omega) FZ.out HE.out).mono ?_
        rintro e w11 ⟨rfl, hs11⟩
        refine ⟨_, rfl, ?_⟩
        have HS11 := Aside0.mk hs11
        clear hs11
        have r0 := (HS11.out.nth 1 rfl).cell 0 (v := .bool true) rfl
        have r1 := (HS11.out.nth 1 rfl).cell 1 (v := .int .i64 a) rfl
        have r2 := (HS11.out.nth 1 rfl).cell 2 (v := .int .i64 t) rfl
        refine hK.out _ _ ⟨r0, r1, r2⟩ (fun hHeld => ?_)
        clear hK K
        refine norm_ (a' := ?_) ?_ ?_
        rotate_left
        · show Act.put _ (some 47) _ = _
          simp only [Act.put, List.setIfInBounds_toArray, List.set_cons_zero, List.set_cons_succ, i64_w, i32_w]
          rfl
        refine pure_ (i := 10) (N := some 50) (v := ?_) (a' := ?_) #[true, true, true, true, true, true, true, true, true, true, true, true, false, false] rfl rfl (any_of HT_.out (by kernel_rfl)) (fun _ _ _ h => h) (Or.inl ⟨by rfl, ?_⟩) ?_ ?_
        rotate_left
        · intro w'
          go_simp
          with_reducible rfl
        rotate_left
        · simp only [Act.put, List.setIfInBounds_toArray, List.set_cons_zero, List.set_cons_succ, i64_w, i32_w]
          rfl
        refine pure_ (i := 12) (N := some 4) (v := ?_) (a' := ?_) #[true, true, true, true, true, true, true, true, true, true, true, true, true, false] rfl rfl (any_of HT_.out (by kernel_rfl)) (fun _ _ _ h => h) (Or.inl ⟨by rfl, ?_⟩) ?_ ?_
        rotate_left
        · intro w'
          go_simp
          with_reducible rfl
        rotate_left
        · simp only [Act.put, List.setIfInBounds_toArray, List.set_cons_zero, List.set_cons_succ, i64_w, i32_w]
          rfl
        refine last_ (i := 13) (N := none) #[true, true, true, true, true, true, true, true, true, true, true, true, true, true] rfl rfl (one_of HT_.out (by kernel_rfl)) (by decide) (fun K hK => ?_)
        have s0 := (HS11.out.nth 2 rfl).cell 0 (v := .bool false) rfl
        have s1 := (HS11.out.nth 2 rfl).cell 1 (v := .int .i64 0) rfl
        have s2 := (HS11.out.nth 2 rfl).cell 2 (v := .int .i64 0) rfl
        have t0 := (HS11.out.nth 2 rfl).free 0
        have t1 := (HS11.out.nth 2 rfl).free 1
        have t2 := (HS11.out.nth 2 rfl).free 2
        refine skip_ (w1 := ?_) (by rfl) rfl ?_ ?_
        rotate_left
        · go_simp
          rfl
        refine hK.out _ _ ?_
        clear hK K
        refine done_ (done_of HT_.out (by kernel_rfl)) ?_
        have HY := Aside0.mk ((((HS11.out.nth 2 rfl).setBlk 0 (.bool true)).setBlk 1 (.int .i64 a)).setBlk 2 (.int .i64 t))
        go_wp2
        refine bodyPost_ret (results_tc rfl _ _ gr 55 #[.bool true, .int .i64 a, .int .i64 t] (0, 0) _ rfl HY.out.blk Tryd.underlying55 rfl (by kernel_rfl)) rfl ?_
        rw [HVV.out]
        unfold heldR
        simp only
        rw [RZ.out]
        refine ⟨?_, drop2 ((show Sat w0 _ (Blk gr _ 55 :: Rb g sz.1 sz.2 :: Blk gx _ 55 :: L) from HY.out).nth 1 rfl)⟩
        show Ending.returned (.tuple #[.int .u64 (IntKind.u64.wrap ((z : Int) * 2 ^ min t 64)), .agg #[.bool true, .int .i64 a, .int .i64 t]]) = _
        rw [HSL.out]
        rfl
    · have p2 : ((x2 : Int) == 1) = false := by rw [beq_eq_false_iff_ne]; omega
      have Q2 := Aside0.mk q2
      clear q2
      cases x with
      | none =>
        have hw := HW.out
        simp only [winC] at hw
        injection hw with hw
        injection hw with hw0 hw
        injection hw with hw1 hw
        injection hw with hw2 hw
        injection hw0 with hw0
        injection hw1 with _ hw1
        injection hw2 with _ hw2
        subst hw0
        subst hw1
        subst hw2
        have HVV := Aside0.mk (show valueR s none = ((0, none), (sa2.1, true)) by rw [HV.out, if_neg Q1.out, if_neg Q2.out]; rfl)
        go_upto_region 7 with (first | (go_at_call 41; go_loud ((first | (with_reducible refine (get_eq R1.out (by omega) (by omega) HF.out H.out).mono ?_) | (with_reducible refine (get_eq R2.out (by omega) (by omega) F1.out H.out).mono ?_)); rintro e w1 ⟨rfl, hs⟩; clear H; have H := Aside0.mk hs; clear hs)))
        have k0 := (H.out.nth 1 rfl).cell 0 (v := .bool false) rfl
        have k2 := (H.out.nth 1 rfl).cell 2 (v := .int .i64 0) rfl
        obtain ⟨vb, hb1⟩ := H.out.some_
        have hb2 := hb1.opened
        have u0 := hb2.cell 1 rfl
        have u1 := hb2.free 1
        have hb3 := hb2.setBlk 1 (.bool true)
        have hb4 : Sat w0 _ (Blk gr #[.bool false, .int .i64 0, .int .i64 0] 55 :: Blk g #[vb, .bool true] 76 :: RowQ (Kd.int .u8) 5 vb sa2.1 :: Blk gx #[.bool false, .int .i64 0, .int .i64 0] 55 :: L) := hb3.nth 3 rfl
        have v0 := hb4.cell 0 rfl
        have v1 := hb4.cell 1 rfl
        have v2 := hb4.cell 2 rfl
        have v3 := hb4.free 0
        have v4 := hb4.free 1
        have v5 := hb4.free 2
        have HY := Aside0.mk (((hb4.setBlk 0 (.bool false)).setBlk 1 (.int .i64 0)).setBlk 2 (.int .i64 0))
        clear hb1 hb2 hb3 hb4
        go_wp2
        refine bodyPost_ret (results_tc rfl _ _ gr 55 #[.bool false, .int .i64 0, .int .i64 0] (0, 0) _ rfl HY.out.blk Tryd.underlying55 rfl (by kernel_rfl)) rfl ?_
        rw [HVV.out]
        have hz := (show Sat w0 _ (Blk gr _ 55 :: Blk g #[vb, .bool true] 76 :: RowQ (Kd.int .u8) 5 vb sa2.1 :: Blk gx _ 55 :: L) from HY.out).tail
        exact ⟨rfl, Sat.any vb (Sat.closed (drop3b hz))⟩
      | some p =>
        obtain ⟨a', t⟩ := p
        have hxx := HX.out _ rfl
        simp only at hxx
        have hw := HW.out
        simp only [winC] at hw
        injection hw with hw
        injection hw with hw0 hw
        injection hw with hw1 hw
        injection hw with hw2 hw
        injection hw0 with hw0
        injection hw1 with _ hw1
        injection hw2 with _ hw2
        subst hw0
        subst hw1
        subst hw2
        clear LA LN R5 R6 F6 F5 HX
        have HAT := Aside0.mk (show a' + t ≤ 63 from hxx.2)
        have HVV := Aside0.mk (show valueR s (some (a', t)) = heldR sa2 (some (a', t)) by rw [HV.out, if_neg Q1.out, if_neg Q2.out])
        clear HV HW hxx
        have dt : decide ((t : Int) < 0) = false := decide_eq_false (by omega)
        go_upto_region 7 with (first | (go_at_call 41; go_loud ((first | (with_reducible refine (get_eq R1.out (by omega) (by omega) HF.out H.out).mono ?_) | (with_reducible refine (get_eq R2.out (by omega) (by omega) F1.out H.out).mono ?_)); rintro e w1 ⟨rfl, hs⟩; clear H; have H := Aside0.mk hs; clear hs)))
        have k0 := (H.out.nth 1 rfl).cell 0 (v := .bool true) rfl
        have k2 := (H.out.nth 1 rfl).cell 2 (v := .int .i64 t) rfl
        go_wp2
        have hat := HAT.out
        have e3 : IntKind.i64.wrap (64 - (a' : Int)) = 64 - (a' : Int) := by rw [IntKind.wrap_i64]; omega
        have e4 : IntKind.i64.wrap (64 - (a' : Int) - (t : Int)) = ((64 - a' - t : Nat) : Int) := by rw [IntKind.wrap_i64]; omega
        have HE := Aside0.mk H.out.drew
        have q0 := (HE.out.nth 1 rfl).cell 0 (v := .bool true) rfl
        have q1 := (HE.out.nth 1 rfl).cell 1 (v := .int .i64 a') rfl
        have q2 := (HE.out.nth 1 rfl).cell 2 (v := .int .i64 t) rfl
        obtain ⟨z, sz, hz⟩ := getR_named sa2 ((64 - a' - t : Nat) : Int)
        have RZ := Aside0.mk hz
        have FZ := F2
        have HSL := Aside0.mk (shl2 z t (by omega))
        clear hz hat
        refine start_ (n := 14) (S := fun w' => w'.cell? ⟨gx, 0, none⟩ = some (.bool true) ∧ w'.cell? ⟨gx, 1, none⟩ = some (.int .i64 a') ∧ w'.cell? ⟨gx, 2, none⟩ = some (.int .i64 t)) (ds := [13]) #[false, false, false, false, false, false, false, false, false, false, false, false, false, false] (by kernel_rfl) rfl rfl ⟨q0, q1, q2⟩ (fun hHeld => ?_)
        refine with_tabW Rv.tab10 Rv.bits10 (fun HT_ HW_ => ?_)
        refine pure_ (i := 0) (N := some 40) (v := ?_) (a' := ?_) #[true, false, false, false, false, false, false, false, false, false, false, false, false, false] rfl rfl (any_of HT_.out (by kernel_rfl)) (fun _ _ _ h => h) (Or.inl ⟨by rfl, ?_⟩) ?_ ?_
        rotate_left
        · intro w'
          go_simp
          with_reducible rfl
        rotate_left
        · simp only [Act.put, List.setIfInBounds_toArray, List.set_cons_zero, List.set_cons_succ, i64_w, i32_w]
          rfl
        refine pure_ (i := 1) (N := some 41) (v := ?_) (a' := ?_) #[true, true, false, false, false, false, false, false, false, false, false, false, false, false] rfl rfl (any_of HT_.out (by kernel_rfl)) (fun _ _ _ h => h) (Or.inl ⟨by rfl, ?_⟩) ?_ ?_
        rotate_left
        · intro w'
          go_simp
          with_reducible rfl
        rotate_left
        · simp only [Act.put, List.setIfInBounds_toArray, List.set_cons_zero, List.set_cons_succ, i64_w, i32_w]
          rfl
        refine pure_ (i := 4) (N := some 44) (v := ?_) (a' := ?_) #[true, true, false, false, true, false, false, false, false, false, false, false, false, false] rfl rfl (any_of HT_.out (by kernel_rfl)) (fun _ _ _ h => h) (Or.inl ⟨by rfl, ?_⟩) ?_ ?_
        rotate_left
        · intro w'
          go_simp
          with_reducible rfl
        rotate_left
        · simp only [Act.put, List.setIfInBounds_toArray, List.set_cons_zero, List.set_cons_succ, i64_w, i32_w]
          rfl
        refine pure_ (i := 8) (N := some 48) (v := ?_) (a' := ?_) #[true, true, false, false, true, false, false, false, true, false, false, false, false, false] rfl rfl (any_of HT_.out (by kernel_rfl)) (fun _ _ _ h => h) (Or.inl ⟨by rfl, ?_⟩) ?_ ?_
        rotate_left
        · intro w'
          go_simp
          with_reducible rfl
        rotate_left
        · simp only [Act.put, List.setIfInBounds_toArray, List.set_cons_zero, List.set_cons_succ, i64_w, i32_w]
          rfl
        refine take_ (i := 2) (N := some 42) (v := ?_) (a' := ?_) #[true, true, true, false, true, false, false, false, true, false, false, false, false, false] rfl rfl (take_ofW HT_.out HW_.out (by kernel_rfl)) (fun _ _ _ h => h) (Or.inl ⟨by rfl, ?_⟩) hHeld ?_ ?_
        rotate_left
        · rintro w' ⟨s0, s1, s2⟩
          go_simp
          with_reducible rfl
        rotate_left
        · simp only [Act.put, List.setIfInBounds_toArray, List.set_cons_zero, List.set_cons_succ, i64_w, i32_w]
          rfl
        refine pure_ (i := 3) (N := some 43) (v := ?_) (a' := ?_) #[true, true, true, true, true, false, false, false, true, false, false, false, false, false] rfl rfl (any_of HT_.out (by kernel_rfl)) (fun _ _ _ h => h) (Or.inl ⟨by rfl, ?_⟩) ?_ ?_
        rotate_left
        · intro w'
          go_simp
          with_reducible rfl
        rotate_left
        · simp only [Act.put, List.setIfInBounds_toArray, List.set_cons_zero, List.set_cons_succ, i64_w, i32_w]
          rfl
        refine take_ (i := 5) (N := some 45) (v := ?_) (a' := ?_) #[true, true, true, true, true, true, false, false, true, false, false, false, false, false] rfl rfl (take_ofW HT_.out HW_.out (by kernel_rfl)) (fun _ _ _ h => h) (Or.inl ⟨by rfl, ?_⟩) hHeld ?_ ?_
        rotate_left
        · rintro w' ⟨s0, s1, s2⟩
          go_simp
          with_reducible rfl
        rotate_left
        · simp only [Act.put, List.setIfInBounds_toArray, List.set_cons_zero, List.set_cons_succ, i64_w, i32_w]
          rfl
        refine pure_ (i := 6) (N := some 46) (v := ?_) (a' := ?_) #[true, true, true, true, true, true, true, false, true, false, false, false, false, false] rfl rfl (any_of HT_.out (by kernel_rfl)) (fun _ _ _ h => h) (Or.inl ⟨by rfl, ?_⟩) ?_ ?_
        rotate_left
        · intro w'
          go_simp
          with_reducible rfl
        rotate_left
        · simp only [Act.put, List.setIfInBounds_toArray, List.set_cons_zero, List.set_cons_succ, i64_w, i32_w]
          rfl
        refine take_ (i := 9) (N := some 49) (v := ?_) (a' := ?_) #[true, true, true, true, true, true, true, false, true, true, false, false, false, false] rfl rfl (take_ofW HT_.out HW_.out (by kernel_rfl)) (fun _ _ _ h => h) (Or.inl ⟨by rfl, ?_⟩) hHeld ?_ ?_
        rotate_left
        · rintro w' ⟨s0, s1, s2⟩
          go_simp
          with_reducible rfl
        rotate_left
        · simp only [Act.put, List.setIfInBounds_toArray, List.set_cons_zero, List.set_cons_succ, i64_w, i32_w]
          rfl
        refine take_ (i := 11) (N := some 51) (v := ?_) (a' := ?_) #[true, true, true, true, true, true, true, false, true, true, false, true, false, false] rfl rfl (take_ofW HT_.out HW_.out (by kernel_rfl)) (fun _ _ _ h => h) (Or.inl ⟨by rfl, ?_⟩) hHeld ?_ ?_
        rotate_left
        · rintro w' ⟨s0, s1, s2⟩
          go_simp
          with_reducible rfl
        rotate_left
        · simp only [Act.put, List.setIfInBounds_toArray, List.set_cons_zero, List.set_cons_succ, i64_w, i32_w]
          rfl
        refine one_ (i := 7) (N := some 47) #[true, true, true, true, true, true, true, true, true, true, false, true, false, false] rfl rfl (one_of HT_.out (by kernel_rfl)) (by decide) (fun K hK => ?_)
        refine goes_ Tryd.func41 (by kernel_rfl) rfl #[.pointer (some ⟨g, 0, none⟩), .int .i64 ((64 - a' - t : Nat) : Int)] (by rfl) rfl rfl (by simp only [List.map_toArray, List.map_cons, List.map_nil]; rfl) ?_
        with_reducible refine (get_eq RZ.out (by omega) (by omega) FZ.out HE.out).mono ?_
        rintro e w11 ⟨rfl, hs11⟩
        refine ⟨_, rfl, ?_⟩
        have HS11 := Aside0.mk hs11
        clear hs11
        have r0 := (HS11.out.nth 1 rfl).cell 0 (v := .bool true) rfl
        have r1 := (HS11.out.nth 1 rfl).cell 1 (v := .int .i64 a') rfl
        have r2 := (HS11.out.nth 1 rfl).cell 2 (v := .int .i64 t) rfl
        refine hK.out _ _ ⟨r0, r1, r2⟩ (fun hHeld => ?_)
        clear hK K
        refine norm_ (a' := ?_) ?_ ?_
        rotate_left
        · show Act.put _ (some 47) _ = _
          simp only [Act.put, List.setIfInBounds_toArray, List.set_cons_zero, List.set_cons_succ, i64_w, i32_w]
          rfl
        refine pure_ (i := 10) (N := some 50) (v := ?_) (a' := ?_) #[true, true, true, true, true, true, true, true, true, true, true, true, false, false] rfl rfl (any_of HT_.out (by kernel_rfl)) (fun _ _ _ h => h) (Or.inl ⟨by rfl, ?_⟩) ?_ ?_
        rotate_left
        · intro w'
          go_simp
          with_reducible rfl
        rotate_left
        · simp only [Act.put, List.setIfInBounds_toArray, List.set_cons_zero, List.set_cons_succ, i64_w, i32_w]
          rfl
        refine pure_ (i := 12) (N := some 4) (v := ?_) (a' := ?_) #[true, true, true, true, true, true, true, true, true, true, true, true, true, false] rfl rfl (any_of HT_.out (by kernel_rfl)) (fun _ _ _ h => h) (Or.inl ⟨by rfl, ?_⟩) ?_ ?_
        rotate_left
        · intro w'
          go_simp
          with_reducible rfl
        rotate_left
        · simp only [Act.put, List.setIfInBounds_toArray, List.set_cons_zero, List.set_cons_succ, i64_w, i32_w]
          rfl
        refine last_ (i := 13) (N := none) #[true, true, true, true, true, true, true, true, true, true, true, true, true, true] rfl rfl (one_of HT_.out (by kernel_rfl)) (by decide) (fun K hK => ?_)
        have s0 := (HS11.out.nth 2 rfl).cell 0 (v := .bool false) rfl
        have s1 := (HS11.out.nth 2 rfl).cell 1 (v := .int .i64 0) rfl
        have s2 := (HS11.out.nth 2 rfl).cell 2 (v := .int .i64 0) rfl
        have t0 := (HS11.out.nth 2 rfl).free 0
        have t1 := (HS11.out.nth 2 rfl).free 1
        have t2 := (HS11.out.nth 2 rfl).free 2
        refine skip_ (w1 := ?_) (by rfl) rfl ?_ ?_
        rotate_left
        · go_simp
          rfl
        refine hK.out _ _ ?_
        clear hK K
        refine done_ (done_of HT_.out (by kernel_rfl)) ?_
        have HY := Aside0.mk ((((HS11.out.nth 2 rfl).setBlk 0 (.bool true)).setBlk 1 (.int .i64 a')).setBlk 2 (.int .i64 t))
        go_wp2
        refine bodyPost_ret (results_tc rfl _ _ gr 55 #[.bool true, .int .i64 a', .int .i64 t] (0, 0) _ rfl HY.out.blk Tryd.underlying55 rfl (by kernel_rfl)) rfl ?_
        rw [HVV.out]
        unfold heldR
        simp only
        rw [RZ.out]
        refine ⟨?_, drop2 ((show Sat w0 _ (Blk gr _ 55 :: Rb g sz.1 sz.2 :: Blk gx _ 55 :: L) from HY.out).nth 1 rfl)⟩
        show Ending.returned (.tuple #[.int .u64 (IntKind.u64.wrap ((z : Int) * 2 ^ min t 64)), .agg #[.bool true, .int .i64 a', .int .i64 t]]) = _
        rw [HSL.out]
        rfl
end Go.Proofs.YtmnlbedgkjnodaaDoor.RfW
