/- The codec's decoder in plain words: what it makes of encoded points.
   What functions of the translation come to, each as a Lean function, and a proof that the call comes to just that; or a law's row, out of its plain law. Written by mp.py, a program of this session, which runs the printer of the kit with stand-in bodies for some library functions. -/
import Derived.Test.YtmnlbedgkjnodaaDoorZTszBack20
import Derived.Test.YtmnlbedgkjnodaaDoorZTszBack7
import Derived.Test.YtmnlbedgkjnodaaDoorZTszBack9
import Derived.Test.YtmnlbedgkjnodaaDoorZTszBack2
import Derived.Test.YtmnlbedgkjnodaaDoorZTszBack4
import Derived.Test.YtmnlbedgkjnodaaDoorZTszBack11
import Derived.Test.YtmnlbedgkjnodaaDoorZTszBack19
import Derived.Test.YtmnlbedgkjnodaaDoorZTszBack17
namespace Go.Proofs.YtmnlbedgkjnodaaDoor.TdS
open Go.RowKit Go.Proofs.YtmnlbedgkjnodaaDoorW.PrintWords Go.Proofs.YtmnlbedgkjnodaaDoorW.PrintLast Go.Proofs.YtmnlbedgkjnodaaDoorW.PrintMore Go.Proofs.YtmnlbedgkjnodaaDoor.QB Go.Proofs.YtmnlbedgkjnodaaDoor.Bt Go.Proofs.YtmnlbedgkjnodaaDoor.TzP Go.Proofs.YtmnlbedgkjnodaaDoor.TzW Go.Proofs.YtmnlbedgkjnodaaDoor.TeP Go.Proofs.YtmnlbedgkjnodaaDoor.TeW Go.Proofs.YtmnlbedgkjnodaaDoor.TdP Go.Proofs.YtmnlbedgkjnodaaDoor.TdW Go.Proofs.YtmnlbedgkjnodaaDoor.Uv Go.Proofs.YtmnlbedgkjnodaaDoor.UvP Go.Proofs.YtmnlbedgkjnodaaDoor.TeK
set_option linter.unusedVariables false
set_option linter.unusedSimpArgs false
theorem dec_at {l : List Pt} (hk : checkF l = 0) (hok : OkL l) (x : List Int) : pointsP ((encB l ++ x).drop (ruv (encB l ++ x)).2.toNat) (ruv (encB l ++ x)).1.toNat = some l ∧ ruv (encB l ++ x) = ((l.length : Int), ((uv l.length).length : Int)) := by
  obtain ⟨hn, _, _⟩ := checkF_zero hk
  have h1 : ruv (encB l ++ x) = ((l.length : Int), ((uv l.length).length : Int)) := by
    unfold encB
    rw [List.append_assoc]
    exact ruv_uv (by omega) _
  refine ⟨?_, h1⟩
  rw [h1]
  simp only [Int.toNat_natCast]
  refine points_at hk hok ⟨List.replicate (8 * (((bitsT l).length + 7) / 8) - (bitsT l).length) 0 ++ unpk x, ?_⟩
  unfold encB
  rw [List.append_assoc, List.drop_left' rfl, List.drop_zero, unpk_append, unpk_pk (l := bitsT l) (goB_isBits l _), List.append_assoc]
theorem dec_enc {l : List Pt} (hk : checkF l = 0) (hok : OkL l) : decP (encB l) = (l, 0) := by
  obtain ⟨hn, _, _⟩ := checkF_zero hk
  obtain ⟨h1, h2⟩ := dec_at hk hok []
  rw [List.append_nil] at h1 h2
  unfold decP
  rw [h1, h2]
  simp only
  have := uv_pos l.length
  rw [if_neg (by omega), if_pos ⟨by rw [encT_ok hk], by rw [encT_ok hk]⟩]
theorem chk_take : ∀ (l : List Pt) (a : Int) (m : Nat), chk a l = 0 → chk a (l.take m) = 0
  | [], a, m, h => by rw [List.take_nil]; rfl
  | p :: t, a, 0, h => by rw [List.take_zero]; rfl
  | p :: t, a, m + 1, h => by
    rw [List.take_succ_cons]
    unfold chk at h ⊢
    split at h
    · omega
    · rename_i h1
      rw [if_neg h1]
      split at h
      · omega
      · rename_i h2
        rw [if_neg h2]
        exact chk_take t _ m h
theorem checkF_take {l : List Pt} (h : checkF l = 0) (m : Nat) : checkF (l.take m) = 0 := by
  unfold checkF at h ⊢
  split at h
  · omega
  · rw [if_neg (by rw [List.length_take]; omega)]
    exact chk_take l _ m h
theorem okL_take {l : List Pt} (h : OkL l) (m : Nat) : OkL (l.take m) := fun p hp => h p (List.mem_of_mem_take hp)
theorem getD_take (l : List Pt) {m i : Nat} (h : i < m) : (l.take m).getD i zp = l.getD i zp := by
  rw [List.getD_eq_getElem?_getD, List.getD_eq_getElem?_getD, List.getElem?_take, if_pos h]
theorem goB_take (l : List Pt) (m : Nat) : ∀ i, i ≤ m → goB (l.take m) i = goB l i
  | 0, _ => rfl
  | 1, h => by rw [goB_one, goB_one, getD_take l (by omega)]
  | i + 2, h => by rw [goB_succ, goB_succ, goB_take l m (i + 1) (by omega), getD_take l (by omega), getD_take l (by omega)]
theorem uv_mono {a b : Nat} (h : a ≤ b) (hb : b < 16384) : (uv a).length ≤ (uv b).length := by
  by_cases h1 : b < 128
  · have := uv_length_le a 1 (by omega) (by omega)
    have := uv_pos b
    omega
  · have h2 := uv_length_le a 2 (by omega) (by omega)
    have h3 : 2 ≤ (uv b).length := by
      rw [uv_big (by omega)]
      have := uv_pos (b / 128)
      simp only [List.length_cons]
      omega
    omega
theorem encB_take {l : List Pt} (hk : checkF l = 0) {m : Nat} (hm : m ≤ l.length) : (encB (l.take m)).length ≤ (encB l).length := by
  obtain ⟨hn, _, _⟩ := checkF_zero hk
  have hml : (l.take m).length = m := by rw [List.length_take]; omega
  unfold encB bitsT
  rw [hml, goB_take l m m (Nat.le_refl _), List.length_append, List.length_append, pk_length, pk_length]
  have h1 := uv_mono hm (by omega)
  have h2 := goB_rest l (l.length - m) m
  rw [show m + (l.length - m) = l.length by omega] at h2
  have h3 : (goB l l.length).1.length = (goB l m).1.length + (restB l m (l.length - m)).length := by rw [h2, List.length_append]
  omega
theorem tsz_dec {l : List Pt} (hk : checkF l = 0) (hok : OkL l) : tsz_Decode.f (encB l) = some (l, 0) := by
  have := encB_small hk
  rw [tsz_Decode.f_eq (by omega) (encB_bytes l), dec_enc hk hok]
end Go.Proofs.YtmnlbedgkjnodaaDoor.TdS
namespace Go.Proofs.YtmnlbedgkjnodaaDoor.QB
open Go.RowKit Go.Proofs.YtmnlbedgkjnodaaDoorW.PrintWords Go.Proofs.YtmnlbedgkjnodaaDoorW.PrintLast Go.Proofs.YtmnlbedgkjnodaaDoorW.PrintMore
attribute [local go_sem] max2_int min2_int max_two min_two max_three min_three max_four min_four   -- for this text's walks alone
set_option linter.unusedVariables false
set_option linter.unusedSimpArgs false

/-! ### thermographlaw05_TszBack: function 9 -/
def thermographlaw05_TszBack.j0 : Nat → List (S33) → List Int → Int → Int → Bool → Option (Bool)
  | 0, _, _, _, _, _ => none
  | k + 1, x0, x3, x4, x5, x24 => if x24 = true then (some (x4 == x5)) else ((tsz_Decode.f x3).bind fun bt441 => (if bt441.2 = 0 then ((thermographlaw05_same.f k x0 bt441.1).bind fun t445 => (some t445)) else (some false)))
def thermographlaw05_TszBack.f (k : Nat) (l0 : List (S33)) : Option (Bool) := if (l0.length : Int) > 4096 then (some true) else ((tsz_Encode.f l0).bind fun bt436 => ((thermographref05_Check.f k l0).bind fun t440 => (if bt436.2 = t440 then (thermographlaw05_TszBack.j0 k l0 bt436.1 bt436.2 t440 (t440 != 0)) else (thermographlaw05_TszBack.j0 k l0 bt436.1 bt436.2 t440 true))))
theorem thermographlaw05_TszBack.mono_l : ∀ k, (∀ y0 y1 y2 y3 y4, LeO (thermographlaw05_TszBack.j0 k y0 y1 y2 y3 y4) (thermographlaw05_TszBack.j0 (k + 1) y0 y1 y2 y3 y4))
  | 0 => fun _ _ _ _ _ r h => by simp [thermographlaw05_TszBack.j0] at h
  | k + 1 => by
    have ih0 := thermographlaw05_TszBack.mono_l k
    · intro y0 y1 y2 y3 y4
      unfold thermographlaw05_TszBack.j0
      repeat' first
      | (with_reducible exact ih0 _ _ _ _ _)
      | (with_reducible exact thermographlaw05_same.mono _ _ _)
      | (with_reducible exact thermographref05_Check.mono _ _)
      | (with_reducible exact LeO.refl _)
      | (with_reducible exact LeO.none _)
      | (with_reducible refine LeO.ite ?_ ?_)
      | (with_reducible refine LeO.bind ?_ (fun _ => ?_))
      | exact ih0 _ _ _ _ _
      | exact thermographlaw05_same.mono _ _ _
      | exact thermographref05_Check.mono _ _
      | exact LeO.none _
      | refine LeO.ite ?_ ?_
      | refine LeO.bind ?_ (fun _ => ?_)
theorem thermographlaw05_TszBack.mono : ∀ a0 k, LeO (thermographlaw05_TszBack.f k a0) (thermographlaw05_TszBack.f (k + 1) a0) := by
  intro a0 k
  have ih0 := thermographlaw05_TszBack.mono_l k
  unfold thermographlaw05_TszBack.f
  repeat' first
      | (with_reducible exact ih0 _ _ _ _ _)
      | (with_reducible exact thermographlaw05_same.mono _ _ _)
      | (with_reducible exact thermographref05_Check.mono _ _)
      | (with_reducible exact LeO.refl _)
      | (with_reducible exact LeO.none _)
      | (with_reducible refine LeO.ite ?_ ?_)
      | (with_reducible refine LeO.bind ?_ (fun _ => ?_))
      | exact ih0 _ _ _ _ _
      | exact thermographlaw05_same.mono _ _ _
      | exact thermographref05_Check.mono _ _
      | exact LeO.none _
      | refine LeO.ite ?_ ?_
      | refine LeO.bind ?_ (fun _ => ?_)
set_option maxHeartbeats 8000000 in
set_option maxRecDepth 100000 in
theorem thermographlaw05_TszBack.calls (k : Nat) (A0 : Option Addr) (c0 : Nat) (l0 : List (S33)) (r : Bool) (w : World) (hr0 : Kd.C k33 w A0 l0.length l0) (hc0 : l0.length ≤ c0) (h : thermographlaw05_TszBack.f k l0 = some r) (hL : Ld.LaidW w) :
    Calls Tryd.prog 9 #[.slice A0 l0.length c0] w fun e w' => e = .returned (.bool r) ∧ Below w.heap.size w w' := by
  have HL := Aside0.mk hL
  clear hL
  have HR0 := Aside0.mk hr0
  have HC0 := Aside0.mk hc0
  clear hr0 hc0
  have HB := Aside0.mk (Below.refl w.heap.size w)
  have H : (if (l0.length : Int) > 4096 then (some true) else ((tsz_Encode.f l0).bind fun bt436 => ((thermographref05_Check.f k l0).bind fun t440 => (if bt436.2 = t440 then (thermographlaw05_TszBack.j0 k l0 bt436.1 bt436.2 t440 (t440 != 0)) else (thermographlaw05_TszBack.j0 k l0 bt436.1 bt436.2 t440 true))))) = some r := h
  clear h
  by_cases c2 : (l0.length : Int) > 4096
  · rw [if_pos c2] at H
    have c2b0 : decide (4096 < (l0.length : Int)) = true := decide_eq_true c2
    have c2b1 : decide (4096 < l0.length) = true := decide_eq_true (by omega)
    clear c2
    obtain rfl := Option.some.inj H
    go_enter Tryd.func9, Tryd.ntmps9
    go_wp2
    go_ret
    exact ⟨by first | rfl | (simp [errW_none, errW_some] <;> rfl) | (simp [*, errW_none, errW_some] <;> rfl), by repeat (first | (with_reducible first | exact HB.out | apply below_alloc | apply pw_below_drewN | apply below_drew1) | exact HB.out)⟩
  · rw [if_neg c2] at H
    have c2b0 : decide (4096 < (l0.length : Int)) = false := decide_eq_false c2
    have c2b1 : decide (4096 < l0.length) = false := decide_eq_false (by omega)
    clear c2
    replace H := Option.bind_eq_some_iff.mp H
    obtain ⟨⟨t436, t437⟩, A30, H⟩ := H
    replace H : ((thermographref05_Check.f k l0).bind fun t440 => (if t437 = t440 then (thermographlaw05_TszBack.j0 k l0 t436 t437 t440 (t440 != 0)) else (thermographlaw05_TszBack.j0 k l0 t436 t437 t440 true))) = some r := H
    have A3 := Aside0.mk A30
    clear A30
    replace H := Option.bind_eq_some_iff.mp H
    obtain ⟨t440, A40, H⟩ := H
    replace H : (if t437 = t440 then (thermographlaw05_TszBack.j0 k l0 t436 t437 t440 (t440 != 0)) else (thermographlaw05_TszBack.j0 k l0 t436 t437 t440 true)) = some r := H
    have A4 := Aside0.mk A40
    clear A40
    have HC5 := Aside0.mk H
    clear H
    go_enter Tryd.func9, Tryd.ntmps9
    go_upto_region 5 with (first | ((with_reducible refine gate_callee (f := 11) rfl ?_); refine goesL_ (some 13) rfl rfl Tryd.func11 (by kernel_rfl) rfl #[.slice A0 l0.length c0] rfl (by (try simp only [List.map_toArray, List.map_cons, List.map_nil]); first | done | rfl | (simp only [List.length_drop, List.length_take]; rfl)) ?_; (with_reducible refine (tsz_Encode.calls _ _ l0 t436 t437 _ ?side1 ?side2 A3.out ?sideL).mono ?_); (case sideL => exact Ld.LaidW.below HL.out (by repeat (first | (with_reducible first | exact HB.out | apply below_alloc | apply pw_below_drewN | apply below_drew1) | exact HB.out))); (case side1 => repeat (first | exact HR0.out | (with_reducible refine Kd.C_alloc ?_ _) | (with_reducible refine Kd.C_drewN ?_ _) | (with_reducible refine Kd.C_drew ?_))); (case side2 => exact HC0.out); rintro e w6 ⟨v438, rfl, ho0, hb⟩; refine ⟨_, rfl, ?_⟩; have n0_ := Aside0.mk (Kd.R_lower ho0 (below_size (by repeat (first | (with_reducible first | exact HB.out | apply below_alloc | apply pw_below_drewN | apply below_drew1) | exact HB.out)))); have n1_ := Aside0.mk (below_step (by repeat (first | (with_reducible first | exact HB.out | apply below_alloc | apply pw_below_drewN | apply below_drew1) | exact HB.out)) hb); clear HB; have HO439 := n0_; have HB := n1_; clear n0_ n1_; (try clear hb); (try clear hb2); (try clear hk); (try clear hi); (try clear ho0)) | ((with_reducible refine gate_callee (f := 12) rfl ?_); refine goesL_ (some 17) rfl rfl Tryd.func12 (by kernel_rfl) rfl #[.slice A0 l0.length c0] rfl (by (try simp only [List.map_toArray, List.map_cons, List.map_nil]); first | done | rfl | (simp only [List.length_drop, List.length_take]; rfl)) ?_; (with_reducible refine (thermographref05_Check.calls k _ _ l0 t440 _ ?side1 ?side2 A4.out).mono ?_); (case side1 => repeat (first | exact (Kd.C_below HR0.out HB.out) | (with_reducible refine Kd.C_alloc ?_ _) | (with_reducible refine Kd.C_drewN ?_ _) | (with_reducible refine Kd.C_drew ?_))); (case side2 => exact HC0.out); rintro e w' ⟨rfl, ⟨nd, rfl⟩⟩; refine ⟨_, rfl, ?_⟩))
    (try simp only [Act.put, List.setIfInBounds_toArray, List.set_cons_zero, List.set_cons_succ])
    go_cut [24] (fun v24 wc => ∃ (kq : Nat) (x24_4 : Bool), v24 = .bool x24_4 ∧ Aside0 (thermographlaw05_TszBack.j0 kq l0 t436 t437 t440 x24_4 = some r) ∧ Aside0 (kq ≤ k) ∧ Aside0 (Kd.R (Kd.int .u8) 5 wc w.heap.size (fun _ => True) v438 t436) ∧ Aside0 (Below w.heap.size w wc))
    case first =>
      have H := HC5.out
      clear HC5
      by_cases c7 : t437 = t440
      · rw [if_pos c7] at H
        have c7b0 : (t437 == t440) = true := beq_iff_eq.mpr c7
        have c7b1 : (t437 != t440) = false := bne_eq_false_iff_eq.mpr c7
        clear c7
        (first | rw [c7b0] | (simp only [i64_w, i32_w]; rw [c7b0]) | skip)
        have H' := Aside0.mk H
        clear H
        go_wp2
        go_meet
        case rel => exact ⟨_, ((t440 != 0)), (by first | rfl | (simp; done) | (simp [*]; done)), H', ⟨by first | omega | exact Nat.le_refl _⟩, ⟨by (with_reducible repeat (first | apply Kd.R_alloc | apply Kd.R_drewN | apply Kd.R_drew)); exact HO439.out⟩, ⟨by repeat (first | (with_reducible first | exact HB.out | apply below_alloc | apply pw_below_drewN | apply below_drew1) | exact HB.out)⟩⟩
      · rw [if_neg c7] at H
        have c7b0 : (t437 == t440) = false := beq_eq_false_iff_ne.mpr c7
        have c7b1 : (t437 != t440) = true := bne_iff_ne.mpr c7
        (first | rw [c7b0] | (simp only [i64_w, i32_w]; rw [c7b0]) | skip)
        have H' := Aside0.mk H
        clear H
        go_wp2
        go_meet
        case rel => exact ⟨_, (true), (by first | rfl | (simp; done) | (simp [*]; done)), H', ⟨by first | omega | exact Nat.le_refl _⟩, ⟨by (with_reducible repeat (first | apply Kd.R_alloc | apply Kd.R_drewN | apply Kd.R_drew)); exact HO439.out⟩, ⟨by repeat (first | (with_reducible first | exact HB.out | apply below_alloc | apply pw_below_drewN | apply below_drew1) | exact HB.out)⟩⟩
    case rest =>
      clear HC5
      try clear c1
      try clear c2
      try clear c2b0
      try clear c2b1
      try clear p2
      try clear c7
      try clear c7b0
      try clear c7b1
      obtain ⟨kq, x24_4, rfl, HA, HJ4, HO_3, HB⟩ := hcut
      cases kq with
      | zero => exact absurd HA.out (by simp [thermographlaw05_TszBack.j0])
      | succ kj4 =>
        have H := HA.out
        clear HA
        simp only [thermographlaw05_TszBack.j0] at H
        by_cases c8 : x24_4 = true
        · subst c8
          have H1 : (some (t437 == t440)) = some r := by rw [if_pos rfl] at H; exact H
          clear H
          have H := H1
          clear H1
          obtain rfl := Option.some.inj H
          go_wp2
          go_ret
          exact ⟨by first | rfl | (simp [errW_none, errW_some] <;> rfl) | (simp [*, errW_none, errW_some] <;> rfl), by repeat (first | (with_reducible first | exact HB.out | apply below_alloc | apply pw_below_drewN | apply below_drew1) | exact HB.out)⟩
        · replace c8 := Bool.eq_false_iff.mpr c8
          subst c8
          have H1 : ((tsz_Decode.f t436).bind fun bt441 => (if bt441.2 = 0 then ((thermographlaw05_same.f kj4 l0 bt441.1).bind fun t445 => (some t445)) else (some false))) = some r := by rw [if_neg (show ¬ (false = true) by decide)] at H; exact H
          clear H
          have H := H1
          clear H1
          replace H := Option.bind_eq_some_iff.mp H
          obtain ⟨⟨t441, t442⟩, A90, H⟩ := H
          replace H : (if t442 = 0 then ((thermographlaw05_same.f kj4 l0 t441).bind fun t445 => (some t445)) else (some false)) = some r := H
          have A9 := Aside0.mk A90
          clear A90
          by_cases c10 : t442 = 0
          · rw [if_pos c10] at H
            have c10b0 : (t442 == 0) = true := beq_iff_eq.mpr c10
            have c10b1 : (t442 != 0) = false := bne_eq_false_iff_eq.mpr c10
            clear c10
            replace H := Option.bind_eq_some_iff.mp H
            obtain ⟨t445, A110, H⟩ := H
            replace H : (some t445) = some r := H
            have A11 := Aside0.mk A110
            clear A110
            obtain rfl := Option.some.inj H
            obtain ⟨Ao12, co12, eo12⟩ := Kd.R_slice HO_3.out
            subst eo12
            go_wp2_with (first | ((with_reducible refine gate_callee (f := 19) rfl ?_); refine goesL_ (some 30) rfl rfl Tryd.func19 (by kernel_rfl) rfl #[.slice Ao12 t436.length co12] rfl (by (try simp only [List.map_toArray, List.map_cons, List.map_nil]); first | done | rfl | (simp only [List.length_drop, List.length_take]; rfl)) ?_; (with_reducible refine (tsz_Decode.calls _ _ t436 t441 t442 _ ?side1 ?side2 A9.out ?sideL).mono ?_); (case sideL => exact Ld.LaidW.below HL.out (by repeat (first | (with_reducible first | exact HB.out | apply below_alloc | apply pw_below_drewN | apply below_drew1) | exact HB.out))); (case side1 => repeat (first | exact (Kd.R_reads' HO_3.out).2.2 | (with_reducible refine Kd.C_alloc ?_ _) | (with_reducible refine Kd.C_drewN ?_ _) | (with_reducible refine Kd.C_drew ?_))); (case side2 => exact (Kd.R_reads' HO_3.out).2.1); rintro e w13 ⟨v443, rfl, ho0, hb⟩; refine ⟨_, rfl, ?_⟩; have n0_ := Aside0.mk (Kd.R_below (by (with_reducible repeat (first | apply Kd.R_alloc | apply Kd.R_drewN | apply Kd.R_drew)); exact HO_3.out) hb); have n1_ := Aside0.mk (Kd.R_lower ho0 (below_size (by repeat (first | (with_reducible first | exact HB.out | apply below_alloc | apply pw_below_drewN | apply below_drew1) | exact HB.out)))); have n2_ := Aside0.mk (below_step (by repeat (first | (with_reducible first | exact HB.out | apply below_alloc | apply pw_below_drewN | apply below_drew1) | exact HB.out)) hb); clear HO_3; clear HB; have HO_3 := n0_; have HO444 := n1_; have HB := n2_; clear n0_ n1_ n2_; (try clear hb); (try clear hb2); (try clear hk); (try clear hi); (try clear ho0); obtain ⟨Ao14, co14, eo14⟩ := Kd.R_slice HO444.out; subst eo14) | (go_at_call 18; (with_reducible refine (thermographlaw05_same.calls kj4 _ _ l0 _ _ t441 t445 _ ?side1 ?side2 ?side3 ?side4 A11.out).mono ?_); (case side1 => repeat (first | exact (Kd.C_below HR0.out HB.out) | (with_reducible refine Kd.C_alloc ?_ _) | (with_reducible refine Kd.C_drewN ?_ _) | (with_reducible refine Kd.C_drew ?_))); (case side2 => exact HC0.out); (case side3 => repeat (first | exact (Kd.R_reads' HO444.out).2.2 | (with_reducible refine Kd.C_alloc ?_ _) | (with_reducible refine Kd.C_drewN ?_ _) | (with_reducible refine Kd.C_drew ?_))); (case side4 => exact (Kd.R_reads' HO444.out).2.1); rintro e w' ⟨rfl, ⟨nd, rfl⟩⟩))
            go_ret
            exact ⟨by first | rfl | (simp [errW_none, errW_some] <;> rfl) | (simp [*, errW_none, errW_some] <;> rfl), by repeat (first | (with_reducible first | exact HB.out | apply below_alloc | apply pw_below_drewN | apply below_drew1) | exact HB.out)⟩
          · rw [if_neg c10] at H
            have c10b0 : (t442 == 0) = false := beq_eq_false_iff_ne.mpr c10
            have c10b1 : (t442 != 0) = true := bne_iff_ne.mpr c10
            obtain rfl := Option.some.inj H
            obtain ⟨Ao15, co15, eo15⟩ := Kd.R_slice HO_3.out
            subst eo15
            go_wp2_with (first | ((with_reducible refine gate_callee (f := 19) rfl ?_); refine goesL_ (some 30) rfl rfl Tryd.func19 (by kernel_rfl) rfl #[.slice Ao15 t436.length co15] rfl (by (try simp only [List.map_toArray, List.map_cons, List.map_nil]); first | done | rfl | (simp only [List.length_drop, List.length_take]; rfl)) ?_; (with_reducible refine (tsz_Decode.calls _ _ t436 t441 t442 _ ?side1 ?side2 A9.out ?sideL).mono ?_); (case sideL => exact Ld.LaidW.below HL.out (by repeat (first | (with_reducible first | exact HB.out | apply below_alloc | apply pw_below_drewN | apply below_drew1) | exact HB.out))); (case side1 => repeat (first | exact (Kd.R_reads' HO_3.out).2.2 | (with_reducible refine Kd.C_alloc ?_ _) | (with_reducible refine Kd.C_drewN ?_ _) | (with_reducible refine Kd.C_drew ?_))); (case side2 => exact (Kd.R_reads' HO_3.out).2.1); rintro e w16 ⟨v443, rfl, ho0, hb⟩; refine ⟨_, rfl, ?_⟩; have n0_ := Aside0.mk (Kd.R_below (by (with_reducible repeat (first | apply Kd.R_alloc | apply Kd.R_drewN | apply Kd.R_drew)); exact HO_3.out) hb); have n1_ := Aside0.mk (Kd.R_lower ho0 (below_size (by repeat (first | (with_reducible first | exact HB.out | apply below_alloc | apply pw_below_drewN | apply below_drew1) | exact HB.out)))); have n2_ := Aside0.mk (below_step (by repeat (first | (with_reducible first | exact HB.out | apply below_alloc | apply pw_below_drewN | apply below_drew1) | exact HB.out)) hb); clear HO_3; clear HB; have HO_3 := n0_; have HO444 := n1_; have HB := n2_; clear n0_ n1_ n2_; (try clear hb); (try clear hb2); (try clear hk); (try clear hi); (try clear ho0)))
            go_ret
            exact ⟨by first | rfl | (simp [errW_none, errW_some] <;> rfl) | (simp [*, errW_none, errW_some] <;> rfl), by repeat (first | (with_reducible first | exact HB.out | apply below_alloc | apply pw_below_drewN | apply below_drew1) | exact HB.out)⟩

end Go.Proofs.YtmnlbedgkjnodaaDoor.QB
