/- The codec's decoder in plain words: what it makes of encoded points.
   What functions of the translation come to, each as a Lean function, and a proof that the call comes to just that; or a law's row, out of its plain law. Written by mp.py, a program of this session, which runs the printer of the kit with stand-in bodies for some library functions. -/
import Derived.Test.YtmnlbedgkjnodaaDoorZTszFirst20
import Derived.Test.YtmnlbedgkjnodaaDoorZTszFirst7
import Derived.Test.YtmnlbedgkjnodaaDoorZTszFirst9
import Derived.Test.YtmnlbedgkjnodaaDoorZTszFirst2
import Derived.Test.YtmnlbedgkjnodaaDoorZTszFirst4
import Derived.Test.YtmnlbedgkjnodaaDoorZTszFirst11
import Derived.Test.YtmnlbedgkjnodaaDoorZTszFirst19
import Derived.Test.YtmnlbedgkjnodaaDoorZTszFirst17
namespace Go.Proofs.YtmnlbedgkjnodaaDoor.TdS
open Go.RowKit Go.Proofs.YtmnlbedgkjnodaaDoorW.PrintWords Go.Proofs.YtmnlbedgkjnodaaDoorW.PrintLast Go.Proofs.YtmnlbedgkjnodaaDoorW.PrintMore Go.Proofs.YtmnlbedgkjnodaaDoor.QB Go.Proofs.YtmnlbedgkjnodaaDoor.Bt Go.Proofs.YtmnlbedgkjnodaaDoor.TzP Go.Proofs.YtmnlbedgkjnodaaDoor.TzW Go.Proofs.YtmnlbedgkjnodaaDoor.TeP Go.Proofs.YtmnlbedgkjnodaaDoor.TeW Go.Proofs.YtmnlbedgkjnodaaDoor.TdP Go.Proofs.YtmnlbedgkjnodaaDoor.TdW Go.Proofs.YtmnlbedgkjnodaaDoor.Uv Go.Proofs.YtmnlbedgkjnodaaDoor.UvP Go.Proofs.YtmnlbedgkjnodaaDoor.TeK
set_option linter.unusedVariables false
set_option linter.unusedSimpArgs false
theorem dec_at {l : List Pt} (hk : checkF l = 0) (hok : OkL l) (x : List Int) : pointsP ((encB l ++ x).drop (ruv (encB l ++ x)).2.toNat) (ruv (encB l ++ x)).1.toNat = some l ∧ ruv (encB l ++ x) = ((l.length : Int), ((uv l.length).length : Int)) := by
  obtain ⟨hn, _, _⟩ := checkF_zero hk
  have h1 : ruv (encB l ++ x) = ((l.length : Int), ((uv l.length).length : Int)) := by
    unfold encB
    rw [List.append_assoc]
    exact ruv_uv (by omega) _
  refine ⟨?_, h1⟩
  rw [h1]
  simp only [Int.toNat_natCast]
  refine points_at hk hok ⟨List.replicate (8 * (((bitsT l).length + 7) / 8) - (bitsT l).length) 0 ++ unpk x, ?_⟩
  unfold encB
  rw [List.append_assoc, List.drop_left' rfl, List.drop_zero, unpk_append, unpk_pk (l := bitsT l) (goB_isBits l _), List.append_assoc]
theorem dec_enc {l : List Pt} (hk : checkF l = 0) (hok : OkL l) : decP (encB l) = (l, 0) := by
  obtain ⟨hn, _, _⟩ := checkF_zero hk
  obtain ⟨h1, h2⟩ := dec_at hk hok []
  rw [List.append_nil] at h1 h2
  unfold decP
  rw [h1, h2]
  simp only
  have := uv_pos l.length
  rw [if_neg (by omega), if_pos ⟨by rw [encT_ok hk], by rw [encT_ok hk]⟩]
theorem chk_take : ∀ (l : List Pt) (a : Int) (m : Nat), chk a l = 0 → chk a (l.take m) = 0
  | [], a, m, h => by rw [List.take_nil]; rfl
  | p :: t, a, 0, h => by rw [List.take_zero]; rfl
  | p :: t, a, m + 1, h => by
    rw [List.take_succ_cons]
    unfold chk at h ⊢
    split at h
    · omega
    · rename_i h1
      rw [if_neg h1]
      split at h
      · omega
      · rename_i h2
        rw [if_neg h2]
        exact chk_take t _ m h
theorem checkF_take {l : List Pt} (h : checkF l = 0) (m : Nat) : checkF (l.take m) = 0 := by
  unfold checkF at h ⊢
  split at h
  · omega
  · rw [if_neg (by rw [List.length_take]; omega)]
    exact chk_take l _ m h
theorem okL_take {l : List Pt} (h : OkL l) (m : Nat) : OkL (l.take m) := fun p hp => h p (List.mem_of_mem_take hp)
theorem getD_take (l : List Pt) {m i : Nat} (h : i < m) : (l.take m).getD i zp = l.getD i zp := by
  rw [List.getD_eq_getElem?_getD, List.getD_eq_getElem?_getD, List.getElem?_take, if_pos h]
theorem goB_take (l : List Pt) (m : Nat) : ∀ i, i ≤ m → goB (l.take m) i = goB l i
  | 0, _ => rfl
  | 1, h => by rw [goB_one, goB_one, getD_take l (by omega)]
  | i + 2, h => by rw [goB_succ, goB_succ, goB_take l m (i + 1) (by omega), getD_take l (by omega), getD_take l (by omega)]
theorem uv_mono {a b : Nat} (h : a ≤ b) (hb : b < 16384) : (uv a).length ≤ (uv b).length := by
  by_cases h1 : b < 128
  · have := uv_length_le a 1 (by omega) (by omega)
    have := uv_pos b
    omega
  · have h2 := uv_length_le a 2 (by omega) (by omega)
    have h3 : 2 ≤ (uv b).length := by
      rw [uv_big (by omega)]
      have := uv_pos (b / 128)
      simp only [List.length_cons]
      omega
    omega
theorem encB_take {l : List Pt} (hk : checkF l = 0) {m : Nat} (hm : m ≤ l.length) : (encB (l.take m)).length ≤ (encB l).length := by
  obtain ⟨hn, _, _⟩ := checkF_zero hk
  have hml : (l.take m).length = m := by rw [List.length_take]; omega
  unfold encB bitsT
  rw [hml, goB_take l m m (Nat.le_refl _), List.length_append, List.length_append, pk_length, pk_length]
  have h1 := uv_mono hm (by omega)
  have h2 := goB_rest l (l.length - m) m
  rw [show m + (l.length - m) = l.length by omega] at h2
  have h3 : (goB l l.length).1.length = (goB l m).1.length + (restB l m (l.length - m)).length := by rw [h2, List.length_append]
  omega
theorem tsz_dec {l : List Pt} (hk : checkF l = 0) (hok : OkL l) : tsz_Decode.f (encB l) = some (l, 0) := by
  have := encB_small hk
  rw [tsz_Decode.f_eq (by omega) (encB_bytes l), dec_enc hk hok]
end Go.Proofs.YtmnlbedgkjnodaaDoor.TdS
namespace Go.Proofs.YtmnlbedgkjnodaaDoor.QB
open Go.RowKit Go.Proofs.YtmnlbedgkjnodaaDoorW.PrintWords Go.Proofs.YtmnlbedgkjnodaaDoorW.PrintLast Go.Proofs.YtmnlbedgkjnodaaDoorW.PrintMore
attribute [local go_sem] max2_int min2_int max_two min_two max_three min_three max_four min_four   -- for this text's walks alone
set_option linter.unusedVariables false
set_option linter.unusedSimpArgs false

/-! ### thermographlaw05_TszFirst: function 7 -/
mutual
def thermographlaw05_TszFirst.j0 : Nat → List (S33) → Int → Bool → Option (Bool)
  | 0, _, _, _ => none
  | k + 1, x0, x1, x18 => if x18 = true then (some true) else ((tsz_Encode.f x0).bind fun bt375 => ((thermographref05_Check.f k x0).bind fun t379 => (if bt375.2 = t379 then (thermographlaw05_TszFirst.j1 k x0 x1 bt375.1 bt375.2 (bt375.2 != 0)) else (thermographlaw05_TszFirst.j1 k x0 x1 bt375.1 bt375.2 true))))
def thermographlaw05_TszFirst.j1 : Nat → List (S33) → Int → List Int → Int → Bool → Option (Bool)
  | 0, _, _, _, _, _ => none
  | k + 1, x0, x1, x5, x6, x31 => if x31 = true then ((thermographref05_Check.f k x0).bind fun t380 => (some (x6 == t380))) else (if (x0.length : Int) = 0 then (none) else (if 0 ≤ (Int.tmod (wrap64 ((Int.tmod x1 (x0.length : Int)) + (x0.length : Int))) (x0.length : Int)) then (if (Int.tmod (wrap64 ((Int.tmod x1 (x0.length : Int)) + (x0.length : Int))) (x0.length : Int)) ≤ (x0.length : Int) then ((tsz_Encode.f (x0.take ((Int.tmod (wrap64 ((Int.tmod x1 (x0.length : Int)) + (x0.length : Int))) (x0.length : Int)) : Int).toNat)).bind fun bt385 => ((tsz_Decode.f bt385.1).bind fun bt389 => (if bt385.2 = 0 then (if bt389.2 = 0 then (if (bt385.1.length : Int) ≤ (x5.length : Int) then ((thermographlaw05_same.f k bt389.1 (x0.take ((Int.tmod (wrap64 ((Int.tmod x1 (x0.length : Int)) + (x0.length : Int))) (x0.length : Int)) : Int).toNat)).bind fun t397 => (some t397)) else (some false)) else (some false)) else (some false)))) else (none)) else (none)))
end
def thermographlaw05_TszFirst.f (k : Nat) (l0 : List (S33)) (a1 : Int) : Option (Bool) := if (l0.length : Int) > 4096 then (thermographlaw05_TszFirst.j0 k l0 a1 true) else (thermographlaw05_TszFirst.j0 k l0 a1 ((l0.length : Int) == 0))
theorem thermographlaw05_TszFirst.mono_l : ∀ k, (∀ y0 y1 y2, LeO (thermographlaw05_TszFirst.j0 k y0 y1 y2) (thermographlaw05_TszFirst.j0 (k + 1) y0 y1 y2)) ∧ (∀ y0 y1 y2 y3 y4, LeO (thermographlaw05_TszFirst.j1 k y0 y1 y2 y3 y4) (thermographlaw05_TszFirst.j1 (k + 1) y0 y1 y2 y3 y4))
  | 0 => ⟨fun _ _ _ r h => by simp [thermographlaw05_TszFirst.j0] at h, fun _ _ _ _ _ r h => by simp [thermographlaw05_TszFirst.j1] at h⟩
  | k + 1 => by
    obtain ⟨ih0, ih1⟩ := thermographlaw05_TszFirst.mono_l k
    refine ⟨?_, ?_⟩
    · intro y0 y1 y2
      unfold thermographlaw05_TszFirst.j0
      repeat' first
      | (with_reducible exact ih0 _ _ _)
      | (with_reducible exact ih1 _ _ _ _ _)
      | (with_reducible exact thermographlaw05_same.mono _ _ _)
      | (with_reducible exact thermographref05_Check.mono _ _)
      | (with_reducible exact LeO.refl _)
      | (with_reducible exact LeO.none _)
      | (with_reducible refine LeO.ite ?_ ?_)
      | (with_reducible refine LeO.bind ?_ (fun _ => ?_))
      | exact ih0 _ _ _
      | exact ih1 _ _ _ _ _
      | exact thermographlaw05_same.mono _ _ _
      | exact thermographref05_Check.mono _ _
      | exact LeO.none _
      | refine LeO.ite ?_ ?_
      | refine LeO.bind ?_ (fun _ => ?_)
    · intro y0 y1 y2 y3 y4
      unfold thermographlaw05_TszFirst.j1
      repeat' first
      | (with_reducible exact ih0 _ _ _)
      | (with_reducible exact ih1 _ _ _ _ _)
      | (with_reducible exact thermographlaw05_same.mono _ _ _)
      | (with_reducible exact thermographref05_Check.mono _ _)
      | (with_reducible exact LeO.refl _)
      | (with_reducible exact LeO.none _)
      | (with_reducible refine LeO.ite ?_ ?_)
      | (with_reducible refine LeO.bind ?_ (fun _ => ?_))
      | exact ih0 _ _ _
      | exact ih1 _ _ _ _ _
      | exact thermographlaw05_same.mono _ _ _
      | exact thermographref05_Check.mono _ _
      | exact LeO.none _
      | refine LeO.ite ?_ ?_
      | refine LeO.bind ?_ (fun _ => ?_)
theorem thermographlaw05_TszFirst.mono : ∀ a0 a1 k, LeO (thermographlaw05_TszFirst.f k a0 a1) (thermographlaw05_TszFirst.f (k + 1) a0 a1) := by
  intro a0 a1 k
  obtain ⟨ih0, ih1⟩ := thermographlaw05_TszFirst.mono_l k
  unfold thermographlaw05_TszFirst.f
  repeat' first
      | (with_reducible exact ih0 _ _ _)
      | (with_reducible exact ih1 _ _ _ _ _)
      | (with_reducible exact thermographlaw05_same.mono _ _ _)
      | (with_reducible exact thermographref05_Check.mono _ _)
      | (with_reducible exact LeO.refl _)
      | (with_reducible exact LeO.none _)
      | (with_reducible refine LeO.ite ?_ ?_)
      | (with_reducible refine LeO.bind ?_ (fun _ => ?_))
      | exact ih0 _ _ _
      | exact ih1 _ _ _ _ _
      | exact thermographlaw05_same.mono _ _ _
      | exact thermographref05_Check.mono _ _
      | exact LeO.none _
      | refine LeO.ite ?_ ?_
      | refine LeO.bind ?_ (fun _ => ?_)
set_option maxHeartbeats 8000000 in
set_option maxRecDepth 100000 in
theorem thermographlaw05_TszFirst.calls (k : Nat) (A0 : Option Addr) (c0 : Nat) (l0 : List (S33)) (a1 : Int) (r : Bool) (w : World) (hr0 : Kd.C k33 w A0 l0.length l0) (hc0 : l0.length ≤ c0) (h : thermographlaw05_TszFirst.f k l0 a1 = some r) (hL : Ld.LaidW w) :
    Calls Tryd.prog 7 #[.slice A0 l0.length c0, .int .i64 a1] w fun e w' => e = .returned (.bool r) ∧ Below w.heap.size w w' := by
  have HL := Aside0.mk hL
  clear hL
  have HR0 := Aside0.mk hr0
  have HC0 := Aside0.mk hc0
  clear hr0 hc0
  have HB := Aside0.mk (Below.refl w.heap.size w)
  have H : (if (l0.length : Int) > 4096 then (thermographlaw05_TszFirst.j0 k l0 a1 true) else (thermographlaw05_TszFirst.j0 k l0 a1 ((l0.length : Int) == 0))) = some r := h
  clear h
  have HC3 := Aside0.mk H
  clear H
  go_enter Tryd.func7, Tryd.ntmps7
  go_upto_region 1 with (fail)
  go_cut [18] (fun v18 wc => ∃ (kq : Nat) (x18_2 : Bool), v18 = .bool x18_2 ∧ Aside0 (thermographlaw05_TszFirst.j0 kq l0 a1 x18_2 = some r) ∧ Aside0 (kq ≤ k) ∧ Aside0 (Below w.heap.size w wc))
  case first =>
    have H := HC3.out
    clear HC3
    by_cases c4 : (l0.length : Int) > 4096
    · rw [if_pos c4] at H
      have c4b0 : decide (4096 < (l0.length : Int)) = true := decide_eq_true c4
      have c4b1 : decide (4096 < l0.length) = true := decide_eq_true (by omega)
      clear c4
      (first | rw [c4b0] | (simp only [i64_w, i32_w]; rw [c4b0]) | skip)
      have H' := Aside0.mk H
      clear H
      go_wp2
      go_meet
      case rel => exact ⟨_, (true), (by first | rfl | (simp; done) | (simp [*]; done)), H', ⟨by first | omega | exact Nat.le_refl _⟩, ⟨by repeat (first | (with_reducible first | exact HB.out | apply below_alloc | apply pw_below_drewN | apply below_drew1) | exact HB.out)⟩⟩
    · rw [if_neg c4] at H
      have c4b0 : decide (4096 < (l0.length : Int)) = false := decide_eq_false c4
      have c4b1 : decide (4096 < l0.length) = false := decide_eq_false (by omega)
      clear c4
      (first | rw [c4b0] | (simp only [i64_w, i32_w]; rw [c4b0]) | skip)
      have H' := Aside0.mk H
      clear H
      go_wp2
      go_meet
      case rel => exact ⟨_, (((l0.length : Int) == 0)), (by first | rfl | (simp; done) | (simp [*]; done)), H', ⟨by first | omega | exact Nat.le_refl _⟩, ⟨by repeat (first | (with_reducible first | exact HB.out | apply below_alloc | apply pw_below_drewN | apply below_drew1) | exact HB.out)⟩⟩
  case rest =>
    clear HC3
    try clear p2
    try clear c4
    try clear c4b0
    try clear c4b1
    obtain ⟨kq, x18_2, rfl, HA, HJ2, HB⟩ := hcut
    cases kq with
    | zero => exact absurd HA.out (by simp [thermographlaw05_TszFirst.j0])
    | succ kj2 =>
      have H := HA.out
      clear HA
      simp only [thermographlaw05_TszFirst.j0] at H
      by_cases c5 : x18_2 = true
      · subst c5
        have H1 : (some true) = some r := by rw [if_pos rfl] at H; exact H
        clear H
        have H := H1
        clear H1
        obtain rfl := Option.some.inj H
        go_wp2
        go_ret
        exact ⟨by first | rfl | (simp [errW_none, errW_some] <;> rfl) | (simp [*, errW_none, errW_some] <;> rfl), by repeat (first | (with_reducible first | exact HB.out | apply below_alloc | apply pw_below_drewN | apply below_drew1) | exact HB.out)⟩
      · replace c5 := Bool.eq_false_iff.mpr c5
        subst c5
        have H1 : ((tsz_Encode.f l0).bind fun bt375 => ((thermographref05_Check.f kj2 l0).bind fun t379 => (if bt375.2 = t379 then (thermographlaw05_TszFirst.j1 kj2 l0 a1 bt375.1 bt375.2 (bt375.2 != 0)) else (thermographlaw05_TszFirst.j1 kj2 l0 a1 bt375.1 bt375.2 true)))) = some r := by rw [if_neg (show ¬ (false = true) by decide)] at H; exact H
        clear H
        have H := H1
        clear H1
        replace H := Option.bind_eq_some_iff.mp H
        obtain ⟨⟨t375, t376⟩, A60, H⟩ := H
        replace H : ((thermographref05_Check.f kj2 l0).bind fun t379 => (if t376 = t379 then (thermographlaw05_TszFirst.j1 kj2 l0 a1 t375 t376 (t376 != 0)) else (thermographlaw05_TszFirst.j1 kj2 l0 a1 t375 t376 true))) = some r := H
        have A6 := Aside0.mk A60
        clear A60
        have HC7 := Aside0.mk H
        clear H
        go_upto_region 4 with (first | ((with_reducible refine gate_callee (f := 11) rfl ?_); refine goesL_ (some 21) rfl rfl Tryd.func11 (by kernel_rfl) rfl #[.slice A0 l0.length c0] rfl (by (try simp only [List.map_toArray, List.map_cons, List.map_nil]); first | done | rfl | (simp only [List.length_drop, List.length_take]; rfl)) ?_; (with_reducible refine (tsz_Encode.calls _ _ l0 t375 t376 _ ?side1 ?side2 A6.out ?sideL).mono ?_); (case sideL => exact Ld.LaidW.below HL.out (by repeat (first | (with_reducible first | exact HB.out | apply below_alloc | apply pw_below_drewN | apply below_drew1) | exact HB.out))); (case side1 => repeat (first | exact (Kd.C_below HR0.out HB.out) | (with_reducible refine Kd.C_alloc ?_ _) | (with_reducible refine Kd.C_drewN ?_ _) | (with_reducible refine Kd.C_drew ?_))); (case side2 => exact HC0.out); rintro e w8 ⟨v377, rfl, ho0, hb⟩; refine ⟨_, rfl, ?_⟩; have n0_ := Aside0.mk (Kd.R_lower ho0 (below_size (by repeat (first | (with_reducible first | exact HB.out | apply below_alloc | apply pw_below_drewN | apply below_drew1) | exact HB.out)))); have n1_ := Aside0.mk (below_step (by repeat (first | (with_reducible first | exact HB.out | apply below_alloc | apply pw_below_drewN | apply below_drew1) | exact HB.out)) hb); clear HB; have HO378 := n0_; have HB := n1_; clear n0_ n1_; (try clear hb); (try clear hb2); (try clear hk); (try clear hi); (try clear ho0)))
        (try simp only [Act.put, List.setIfInBounds_toArray, List.set_cons_zero, List.set_cons_succ])
        go_cut [31] (fun v31 wc => ∃ (kq : Nat) (x31_6 : Bool), v31 = .bool x31_6 ∧ Aside0 (thermographlaw05_TszFirst.j1 kq l0 a1 t375 t376 x31_6 = some r) ∧ Aside0 (kq ≤ kj2) ∧ Aside0 (Kd.R (Kd.int .u8) 5 wc w.heap.size (fun _ => True) v377 t375) ∧ Aside0 (Below w.heap.size w wc))
        case first =>
          have H := HC7.out
          clear HC7
          replace H := Option.bind_eq_some_iff.mp H
          obtain ⟨t379, A90, H⟩ := H
          replace H : (if t376 = t379 then (thermographlaw05_TszFirst.j1 kj2 l0 a1 t375 t376 (t376 != 0)) else (thermographlaw05_TszFirst.j1 kj2 l0 a1 t375 t376 true)) = some r := H
          have A9 := Aside0.mk A90
          clear A90
          by_cases c10 : t376 = t379
          · rw [if_pos c10] at H
            have c10b0 : (t376 == t379) = true := beq_iff_eq.mpr c10
            have c10b1 : (t376 != t379) = false := bne_eq_false_iff_eq.mpr c10
            clear c10
            (first | rw [c10b0] | (simp only [i64_w, i32_w]; rw [c10b0]) | skip)
            have H' := Aside0.mk H
            clear H
            go_wp2_with (first | ((with_reducible refine gate_callee (f := 12) rfl ?_); refine goesL_ (some 26) rfl rfl Tryd.func12 (by kernel_rfl) rfl #[.slice A0 l0.length c0] rfl (by (try simp only [List.map_toArray, List.map_cons, List.map_nil]); first | done | rfl | (simp only [List.length_drop, List.length_take]; rfl)) ?_; (with_reducible refine (thermographref05_Check.calls kj2 _ _ l0 t379 _ ?side1 ?side2 A9.out).mono ?_); (case side1 => repeat (first | exact (Kd.C_below HR0.out HB.out) | (with_reducible refine Kd.C_alloc ?_ _) | (with_reducible refine Kd.C_drewN ?_ _) | (with_reducible refine Kd.C_drew ?_))); (case side2 => exact HC0.out); rintro e w' ⟨rfl, ⟨nd, rfl⟩⟩; refine ⟨_, rfl, ?_⟩))
            go_meet
            case rel => exact ⟨_, ((t376 != 0)), (by first | rfl | (simp; done) | (simp [*]; done)), H', ⟨by have := HJ2.out; first | omega | exact Nat.le_refl _⟩, ⟨by (with_reducible repeat (first | apply Kd.R_alloc | apply Kd.R_drewN | apply Kd.R_drew)); exact HO378.out⟩, ⟨by repeat (first | (with_reducible first | exact HB.out | apply below_alloc | apply pw_below_drewN | apply below_drew1) | exact HB.out)⟩⟩
          · rw [if_neg c10] at H
            have c10b0 : (t376 == t379) = false := beq_eq_false_iff_ne.mpr c10
            have c10b1 : (t376 != t379) = true := bne_iff_ne.mpr c10
            (first | rw [c10b0] | (simp only [i64_w, i32_w]; rw [c10b0]) | skip)
            have H' := Aside0.mk H
            clear H
            go_wp2_with (first | ((with_reducible refine gate_callee (f := 12) rfl ?_); refine goesL_ (some 26) rfl rfl Tryd.func12 (by kernel_rfl) rfl #[.slice A0 l0.length c0] rfl (by (try simp only [List.map_toArray, List.map_cons, List.map_nil]); first | done | rfl | (simp only [List.length_drop, List.length_take]; rfl)) ?_; (with_reducible refine (thermographref05_Check.calls kj2 _ _ l0 t379 _ ?side1 ?side2 A9.out).mono ?_); (case side1 => repeat (first | exact (Kd.C_below HR0.out HB.out) | (with_reducible refine Kd.C_alloc ?_ _) | (with_reducible refine Kd.C_drewN ?_ _) | (with_reducible refine Kd.C_drew ?_))); (case side2 => exact HC0.out); rintro e w' ⟨rfl, ⟨nd, rfl⟩⟩; refine ⟨_, rfl, ?_⟩))
            go_meet
            case rel => exact ⟨_, (true), (by first | rfl | (simp; done) | (simp [*]; done)), H', ⟨by have := HJ2.out; first | omega | exact Nat.le_refl _⟩, ⟨by (with_reducible repeat (first | apply Kd.R_alloc | apply Kd.R_drewN | apply Kd.R_drew)); exact HO378.out⟩, ⟨by repeat (first | (with_reducible first | exact HB.out | apply below_alloc | apply pw_below_drewN | apply below_drew1) | exact HB.out)⟩⟩
        case rest =>
          clear HC7
          try clear c1
          try clear p2
          try clear c4
          try clear c4b0
          try clear c4b1
          try clear c5
          try clear c7
          try clear c10
          try clear c10b0
          try clear c10b1
          try clear p2
          obtain ⟨kq, x31_6, rfl, HA, HJ6, HO_5, HB⟩ := hcut
          cases kq with
          | zero => exact absurd HA.out (by simp [thermographlaw05_TszFirst.j1])
          | succ kj6 =>
            have H := HA.out
            clear HA
            simp only [thermographlaw05_TszFirst.j1] at H
            by_cases c11 : x31_6 = true
            · subst c11
              have H1 : ((thermographref05_Check.f kj6 l0).bind fun t380 => (some (t376 == t380))) = some r := by rw [if_pos rfl] at H; exact H
              clear H
              have H := H1
              clear H1
              replace H := Option.bind_eq_some_iff.mp H
              obtain ⟨t380, A120, H⟩ := H
              replace H : (some (t376 == t380)) = some r := H
              have A12 := Aside0.mk A120
              clear A120
              obtain rfl := Option.some.inj H
              go_wp2_with (first | ((with_reducible refine gate_callee (f := 12) rfl ?_); refine goesL_ (some 34) rfl rfl Tryd.func12 (by kernel_rfl) rfl #[.slice A0 l0.length c0] rfl (by (try simp only [List.map_toArray, List.map_cons, List.map_nil]); first | done | rfl | (simp only [List.length_drop, List.length_take]; rfl)) ?_; (with_reducible refine (thermographref05_Check.calls kj6 _ _ l0 t380 _ ?side1 ?side2 A12.out).mono ?_); (case side1 => repeat (first | exact (Kd.C_below HR0.out HB.out) | (with_reducible refine Kd.C_alloc ?_ _) | (with_reducible refine Kd.C_drewN ?_ _) | (with_reducible refine Kd.C_drew ?_))); (case side2 => exact HC0.out); rintro e w' ⟨rfl, ⟨nd, rfl⟩⟩; refine ⟨_, rfl, ?_⟩))
              go_ret
              exact ⟨by first | rfl | (simp [errW_none, errW_some] <;> rfl) | (simp [*, errW_none, errW_some] <;> rfl), by repeat (first | (with_reducible first | exact HB.out | apply below_alloc | apply pw_below_drewN | apply below_drew1) | exact HB.out)⟩
            · replace c11 := Bool.eq_false_iff.mpr c11
              subst c11
              have H1 : (if (l0.length : Int) = 0 then (none) else (if 0 ≤ (Int.tmod (wrap64 ((Int.tmod a1 (l0.length : Int)) + (l0.length : Int))) (l0.length : Int)) then (if (Int.tmod (wrap64 ((Int.tmod a1 (l0.length : Int)) + (l0.length : Int))) (l0.length : Int)) ≤ (l0.length : Int) then ((tsz_Encode.f (l0.take ((Int.tmod (wrap64 ((Int.tmod a1 (l0.length : Int)) + (l0.length : Int))) (l0.length : Int)) : Int).toNat)).bind fun bt385 => ((tsz_Decode.f bt385.1).bind fun bt389 => (if bt385.2 = 0 then (if bt389.2 = 0 then (if (bt385.1.length : Int) ≤ (t375.length : Int) then ((thermographlaw05_same.f kj6 bt389.1 (l0.take ((Int.tmod (wrap64 ((Int.tmod a1 (l0.length : Int)) + (l0.length : Int))) (l0.length : Int)) : Int).toNat)).bind fun t397 => (some t397)) else (some false)) else (some false)) else (some false)))) else (none)) else (none))) = some r := by rw [if_neg (show ¬ (false = true) by decide)] at H; exact H
              clear H
              have H := H1
              clear H1
              by_cases c13 : (l0.length : Int) = 0
              · rw [if_pos c13] at H
                exact absurd H (by simp)
              · rw [if_neg c13] at H
                have c13b0 : ((l0.length : Int) == 0) = false := beq_eq_false_iff_ne.mpr c13
                have c13b1 : ((l0.length : Int) != 0) = true := bne_iff_ne.mpr c13
                have c13b2 : ¬ (l0 = []) := fun h_ => c13 (by rw [h_]; rfl)
                obtain ⟨ji14, hji14⟩ : ∃ j_ : Int, (Int.tmod (wrap64 ((Int.tmod a1 (l0.length : Int)) + (l0.length : Int))) (l0.length : Int)) = j_ := ⟨_, rfl⟩
                replace H : (if 0 ≤ (ji14) then (if (ji14) ≤ (l0.length : Int) then ((tsz_Encode.f (l0.take ((ji14) : Int).toNat)).bind fun bt385 => ((tsz_Decode.f bt385.1).bind fun bt389 => (if bt385.2 = 0 then (if bt389.2 = 0 then (if (bt385.1.length : Int) ≤ (t375.length : Int) then ((thermographlaw05_same.f kj6 bt389.1 (l0.take ((ji14) : Int).toNat)).bind fun t397 => (some t397)) else (some false)) else (some false)) else (some false)))) else (none)) else (none)) = some r := by first | (rw [hji14] at H; exact H) | (simp only [hji14] at H ⊢; exact H)
                by_cases c15 : 0 ≤ (ji14)
                · rw [if_pos c15] at H
                  have c15b0 := eq_true c15
                  have c15b1 : decide (0 ≤ (ji14)) = true := decide_eq_true c15
                  clear c15
                  by_cases c16 : (ji14) ≤ (l0.length : Int)
                  · rw [if_pos c16] at H
                    have c16b0 := eq_true c16
                    have c16b1 : decide ((ji14) ≤ (l0.length : Int)) = true := decide_eq_true c16
                    clear c16
                    obtain ⟨y381, hy381⟩ : ∃ y_ : List (S33), y_ = (l0.take ((ji14) : Int).toNat) := ⟨_, rfl⟩
                    replace H : ((tsz_Encode.f y381).bind fun bt385 => ((tsz_Decode.f bt385.1).bind fun bt389 => (if bt385.2 = 0 then (if bt389.2 = 0 then (if (bt385.1.length : Int) ≤ (t375.length : Int) then ((thermographlaw05_same.f kj6 bt389.1 (l0.take ((ji14) : Int).toNat)).bind fun t397 => (some t397)) else (some false)) else (some false)) else (some false)))) = some r := by first | (rw [hy381]; with_reducible exact H) | (have H2_ := (Option.bind_some _ _).symm.trans H; rw [hy381]; with_reducible exact H2_) | (have H2_ := (Option.bind_some _ _).symm.trans H; with_reducible exact H2_) | with_reducible exact H | (rw [hy381]; exact H) | exact H
                    have Ny381 := Aside0.mk hy381
                    clear hy381
                    replace H := Option.bind_eq_some_iff.mp H
                    obtain ⟨⟨t385, t386⟩, A170, H⟩ := H
                    replace H : ((tsz_Decode.f t385).bind fun bt389 => (if t386 = 0 then (if bt389.2 = 0 then (if (t385.length : Int) ≤ (t375.length : Int) then ((thermographlaw05_same.f kj6 bt389.1 (l0.take ((ji14) : Int).toNat)).bind fun t397 => (some t397)) else (some false)) else (some false)) else (some false))) = some r := H
                    have A17 := Aside0.mk A170
                    clear A170
                    replace H := Option.bind_eq_some_iff.mp H
                    obtain ⟨⟨t389, t390⟩, A180, H⟩ := H
                    replace H : (if t386 = 0 then (if t390 = 0 then (if (t385.length : Int) ≤ (t375.length : Int) then ((thermographlaw05_same.f kj6 t389 (l0.take ((ji14) : Int).toNat)).bind fun t397 => (some t397)) else (some false)) else (some false)) else (some false)) = some r := H
                    have A18 := Aside0.mk A180
                    clear A180
                    by_cases c19 : t386 = 0
                    · rw [if_pos c19] at H
                      have c19b0 : (t386 == 0) = true := beq_iff_eq.mpr c19
                      have c19b1 : (t386 != 0) = false := bne_eq_false_iff_eq.mpr c19
                      clear c19
                      by_cases c20 : t390 = 0
                      · rw [if_pos c20] at H
                        have c20b0 : (t390 == 0) = true := beq_iff_eq.mpr c20
                        have c20b1 : (t390 != 0) = false := bne_eq_false_iff_eq.mpr c20
                        clear c20
                        by_cases c21 : (t385.length : Int) ≤ (t375.length : Int)
                        · rw [if_pos c21] at H
                          have c21b0 : decide ((t385.length : Int) ≤ (t375.length : Int)) = true := decide_eq_true c21
                          have c21b1 : decide (t385.length ≤ t375.length) = true := decide_eq_true (Int.ofNat_le.mp c21)
                          clear c21
                          have c22b0 := eq_true (of_decide_eq_true (by first | (with_reducible assumption) | assumption) : 0 ≤ (ji14))
                          have c23b0 := eq_true (of_decide_eq_true (by first | (with_reducible assumption) | assumption) : (ji14) ≤ (l0.length : Int))
                          have hy393 : y381 = (l0.take ((ji14) : Int).toNat) := Ny381.out
                          replace H : ((thermographlaw05_same.f kj6 t389 y381).bind fun t397 => (some t397)) = some r := by first | (rw [hy393]; with_reducible exact H) | (have H2_ := (Option.bind_some _ _).symm.trans H; rw [hy393]; with_reducible exact H2_) | (have H2_ := (Option.bind_some _ _).symm.trans H; with_reducible exact H2_) | with_reducible exact H | (rw [hy393]; exact H) | exact H
                          have Ny393 := Aside0.mk hy393
                          clear hy393
                          replace H := Option.bind_eq_some_iff.mp H
                          obtain ⟨t397, A240, H⟩ := H
                          replace H : (some t397) = some r := H
                          have A24 := Aside0.mk A240
                          clear A240
                          obtain rfl := Option.some.inj H
                          have q25 : ((ji14) : Int) ≤ ((l0.length : Int) : Int) := of_decide_eq_true (by first | (with_reducible assumption) | assumption)
                          obtain ⟨i025, hi025, _, hsz25, _⟩ := info_parts info33
                          have hroom25 : l0.length ≤ c0 := HC0.out
                          have hC25 : Kd.C k33 _ A0 l0.length l0 := HR0.out
                          have hcut25 := cut_to (P := Tryd.prog) 22 33 .i64 Tryd.underlying22 hi025 A0 l0.length c0 (ji14) (of_decide_eq_true (by first | (with_reducible assumption) | assumption)) q25 hroom25
                          have hr25 := Kd.C_take (m := ((ji14) : Int).toNat) hC25 (by omega)
                          have hy25 : y381.length = ((ji14) : Int).toNat := (by rw [Ny381.out, List.length_take]; omega)
                          rw [← Ny381.out] at hr25
                          rw [← hy25] at hcut25
                          have HR384 := Aside0.mk hr25
                          have HC384 := Aside0.mk (show y381.length ≤ c0 from by omega)
                          clear hr25 hC25 hroom25 hi025 hsz25
                          have KY25 := Aside0.mk hy25
                          clear hy25
                          replace q25 := eq_true q25
                          go_wp2_with (first | ((with_reducible refine gate_callee (f := 11) rfl ?_); refine goesL_ (some 50) rfl rfl Tryd.func11 (by kernel_rfl) rfl #[.slice A0 y381.length c0] rfl (by (try simp only [List.map_toArray, List.map_cons, List.map_nil]); first | done | rfl | (simp only [List.length_drop, List.length_take]; rfl)) ?_; (with_reducible refine (tsz_Encode.calls _ _ y381 t385 t386 _ ?side1 ?side2 A17.out ?sideL).mono ?_); (case sideL => exact Ld.LaidW.below HL.out (by repeat (first | (with_reducible first | exact HB.out | apply below_alloc | apply pw_below_drewN | apply below_drew1) | exact HB.out))); (case side1 => repeat (first | exact (Kd.C_below HR384.out HB.out) | (with_reducible refine Kd.C_alloc ?_ _) | (with_reducible refine Kd.C_drewN ?_ _) | (with_reducible refine Kd.C_drew ?_))); (case side2 => exact HC384.out); rintro e w26 ⟨v387, rfl, ho0, hb⟩; refine ⟨_, rfl, ?_⟩; have n0_ := Aside0.mk (Kd.R_elder' (by (with_reducible repeat (first | apply Kd.R_alloc | apply Kd.R_drewN | apply Kd.R_drew)); exact HO_5.out) (Kd.R_base ho0) hb); have n1_ := Aside0.mk (Kd.R_lower (Kd.R_new' ho0 (Kd.R_lt (by (with_reducible repeat (first | apply Kd.R_alloc | apply Kd.R_drewN | apply Kd.R_drew)); exact HO_5.out))) (below_size (by repeat (first | (with_reducible first | exact HB.out | apply below_alloc | apply pw_below_drewN | apply below_drew1) | exact HB.out)))); have n2_ := Aside0.mk (below_step (by repeat (first | (with_reducible first | exact HB.out | apply below_alloc | apply pw_below_drewN | apply below_drew1) | exact HB.out)) hb); clear HO_5; clear HB; have HO_5 := n0_; have HO388 := n1_; have HB := n2_; clear n0_ n1_ n2_; (try clear hb); (try clear hb2); (try clear hk); (try clear hi); (try clear ho0); obtain ⟨Ao27, co27, eo27⟩ := Kd.R_slice HO388.out; subst eo27) | ((with_reducible refine gate_callee (f := 19) rfl ?_); refine goesL_ (some 55) rfl rfl Tryd.func19 (by kernel_rfl) rfl #[.slice Ao27 t385.length co27] rfl (by (try simp only [List.map_toArray, List.map_cons, List.map_nil]); first | done | rfl | (simp only [List.length_drop, List.length_take]; rfl)) ?_; (with_reducible refine (tsz_Decode.calls _ _ t385 t389 t390 _ ?side1 ?side2 A18.out ?sideL).mono ?_); (case sideL => exact Ld.LaidW.below HL.out (by repeat (first | (with_reducible first | exact HB.out | apply below_alloc | apply pw_below_drewN | apply below_drew1) | exact HB.out))); (case side1 => repeat (first | exact (Kd.R_reads' HO388.out).2.2 | (with_reducible refine Kd.C_alloc ?_ _) | (with_reducible refine Kd.C_drewN ?_ _) | (with_reducible refine Kd.C_drew ?_))); (case side2 => exact (Kd.R_reads' HO388.out).2.1); rintro e w28 ⟨v391, rfl, ho0, hb⟩; refine ⟨_, rfl, ?_⟩; have n0_ := Aside0.mk (Kd.R_below (by (with_reducible repeat (first | apply Kd.R_alloc | apply Kd.R_drewN | apply Kd.R_drew)); exact HO_5.out) hb); have n1_ := Aside0.mk (Kd.R_below (by (with_reducible repeat (first | apply Kd.R_alloc | apply Kd.R_drewN | apply Kd.R_drew)); exact HO388.out) hb); have n2_ := Aside0.mk (Kd.R_lower ho0 (below_size (by repeat (first | (with_reducible first | exact HB.out | apply below_alloc | apply pw_below_drewN | apply below_drew1) | exact HB.out)))); have n3_ := Aside0.mk (below_step (by repeat (first | (with_reducible first | exact HB.out | apply below_alloc | apply pw_below_drewN | apply below_drew1) | exact HB.out)) hb); clear HO_5; clear HO388; clear HB; have HO_5 := n0_; have HO388 := n1_; have HO392 := n2_; have HB := n3_; clear n0_ n1_ n2_ n3_; (try clear hb); (try clear hb2); (try clear hk); (try clear hi); (try clear ho0); obtain ⟨Ao29, co29, eo29⟩ := Kd.R_slice HO_5.out; subst eo29; have q30 : ((ji14) : Int) ≤ ((l0.length : Int) : Int) := of_decide_eq_true (by first | (with_reducible assumption) | assumption); obtain ⟨i030, hi030, _, hsz30, _⟩ := info_parts info33; have hroom30 : l0.length ≤ c0 := HC0.out; have hC30 : Kd.C k33 _ A0 l0.length l0 := HR0.out; have hcut30 := cut_to (P := Tryd.prog) 22 33 .i64 Tryd.underlying22 hi030 A0 l0.length c0 (ji14) (of_decide_eq_true (by first | (with_reducible assumption) | assumption)) q30 hroom30; have hr30 := Kd.C_take (m := ((ji14) : Int).toNat) hC30 (by omega); have hy30 : y381.length = ((ji14) : Int).toNat := (by rw [Ny393.out, List.length_take]; omega); rw [← Ny393.out] at hr30; rw [← hy30] at hcut30; have HR396 := Aside0.mk hr30; have HC396 := Aside0.mk (show y381.length ≤ c0 from by omega); clear hr30 hC30 hroom30 hi030 hsz30; have KY30 := Aside0.mk hy30; clear hy30; replace q30 := eq_true q30; obtain ⟨Ao31, co31, eo31⟩ := Kd.R_slice HO392.out; subst eo31) | (go_at_call 18; (with_reducible refine (thermographlaw05_same.calls kj6 _ _ t389 _ _ y381 t397 _ ?side1 ?side2 ?side3 ?side4 A24.out).mono ?_); (case side1 => repeat (first | exact (Kd.R_reads' HO392.out).2.2 | (with_reducible refine Kd.C_alloc ?_ _) | (with_reducible refine Kd.C_drewN ?_ _) | (with_reducible refine Kd.C_drew ?_))); (case side2 => exact (Kd.R_reads' HO392.out).2.1); (case side3 => repeat (first | exact (Kd.C_below HR396.out HB.out) | (with_reducible refine Kd.C_alloc ?_ _) | (with_reducible refine Kd.C_drewN ?_ _) | (with_reducible refine Kd.C_drew ?_))); (case side4 => exact HC396.out); rintro e w' ⟨rfl, ⟨nd, rfl⟩⟩))
                          go_ret
                          exact ⟨by first | rfl | (simp [errW_none, errW_some] <;> rfl) | (simp only [← hji14]; first | rfl | (simp [errW_none, errW_some] <;> rfl)) | (simp [*, errW_none, errW_some] <;> rfl), by repeat (first | (with_reducible first | exact HB.out | apply below_alloc | apply pw_below_drewN | apply below_drew1) | exact HB.out)⟩
                        · rw [if_neg c21] at H
                          have c21b0 : decide ((t385.length : Int) ≤ (t375.length : Int)) = false := decide_eq_false c21
                          have c21b1 : decide (t385.length ≤ t375.length) = false := decide_eq_false (fun h => c21 (Int.ofNat_le.mpr h))
                          clear c21
                          obtain rfl := Option.some.inj H
                          have q32 : ((ji14) : Int) ≤ ((l0.length : Int) : Int) := of_decide_eq_true (by first | (with_reducible assumption) | assumption)
                          obtain ⟨i032, hi032, _, hsz32, _⟩ := info_parts info33
                          have hroom32 : l0.length ≤ c0 := HC0.out
                          have hC32 : Kd.C k33 _ A0 l0.length l0 := HR0.out
                          have hcut32 := cut_to (P := Tryd.prog) 22 33 .i64 Tryd.underlying22 hi032 A0 l0.length c0 (ji14) (of_decide_eq_true (by first | (with_reducible assumption) | assumption)) q32 hroom32
                          have hr32 := Kd.C_take (m := ((ji14) : Int).toNat) hC32 (by omega)
                          have hy32 : y381.length = ((ji14) : Int).toNat := (by rw [Ny381.out, List.length_take]; omega)
                          rw [← Ny381.out] at hr32
                          rw [← hy32] at hcut32
                          have HR384 := Aside0.mk hr32
                          have HC384 := Aside0.mk (show y381.length ≤ c0 from by omega)
                          clear hr32 hC32 hroom32 hi032 hsz32
                          have KY32 := Aside0.mk hy32
                          clear hy32
                          replace q32 := eq_true q32
                          go_wp2_with (first | ((with_reducible refine gate_callee (f := 11) rfl ?_); refine goesL_ (some 50) rfl rfl Tryd.func11 (by kernel_rfl) rfl #[.slice A0 y381.length c0] rfl (by (try simp only [List.map_toArray, List.map_cons, List.map_nil]); first | done | rfl | (simp only [List.length_drop, List.length_take]; rfl)) ?_; (with_reducible refine (tsz_Encode.calls _ _ y381 t385 t386 _ ?side1 ?side2 A17.out ?sideL).mono ?_); (case sideL => exact Ld.LaidW.below HL.out (by repeat (first | (with_reducible first | exact HB.out | apply below_alloc | apply pw_below_drewN | apply below_drew1) | exact HB.out))); (case side1 => repeat (first | exact (Kd.C_below HR384.out HB.out) | (with_reducible refine Kd.C_alloc ?_ _) | (with_reducible refine Kd.C_drewN ?_ _) | (with_reducible refine Kd.C_drew ?_))); (case side2 => exact HC384.out); rintro e w33 ⟨v387, rfl, ho0, hb⟩; refine ⟨_, rfl, ?_⟩; have n0_ := Aside0.mk (Kd.R_elder' (by (with_reducible repeat (first | apply Kd.R_alloc | apply Kd.R_drewN | apply Kd.R_drew)); exact HO_5.out) (Kd.R_base ho0) hb); have n1_ := Aside0.mk (Kd.R_lower (Kd.R_new' ho0 (Kd.R_lt (by (with_reducible repeat (first | apply Kd.R_alloc | apply Kd.R_drewN | apply Kd.R_drew)); exact HO_5.out))) (below_size (by repeat (first | (with_reducible first | exact HB.out | apply below_alloc | apply pw_below_drewN | apply below_drew1) | exact HB.out)))); have n2_ := Aside0.mk (below_step (by repeat (first | (with_reducible first | exact HB.out | apply below_alloc | apply pw_below_drewN | apply below_drew1) | exact HB.out)) hb); clear HO_5; clear HB; have HO_5 := n0_; have HO388 := n1_; have HB := n2_; clear n0_ n1_ n2_; (try clear hb); (try clear hb2); (try clear hk); (try clear hi); (try clear ho0); obtain ⟨Ao34, co34, eo34⟩ := Kd.R_slice HO388.out; subst eo34) | ((with_reducible refine gate_callee (f := 19) rfl ?_); refine goesL_ (some 55) rfl rfl Tryd.func19 (by kernel_rfl) rfl #[.slice Ao34 t385.length co34] rfl (by (try simp only [List.map_toArray, List.map_cons, List.map_nil]); first | done | rfl | (simp only [List.length_drop, List.length_take]; rfl)) ?_; (with_reducible refine (tsz_Decode.calls _ _ t385 t389 t390 _ ?side1 ?side2 A18.out ?sideL).mono ?_); (case sideL => exact Ld.LaidW.below HL.out (by repeat (first | (with_reducible first | exact HB.out | apply below_alloc | apply pw_below_drewN | apply below_drew1) | exact HB.out))); (case side1 => repeat (first | exact (Kd.R_reads' HO388.out).2.2 | (with_reducible refine Kd.C_alloc ?_ _) | (with_reducible refine Kd.C_drewN ?_ _) | (with_reducible refine Kd.C_drew ?_))); (case side2 => exact (Kd.R_reads' HO388.out).2.1); rintro e w35 ⟨v391, rfl, ho0, hb⟩; refine ⟨_, rfl, ?_⟩; have n0_ := Aside0.mk (Kd.R_below (by (with_reducible repeat (first | apply Kd.R_alloc | apply Kd.R_drewN | apply Kd.R_drew)); exact HO_5.out) hb); have n1_ := Aside0.mk (Kd.R_below (by (with_reducible repeat (first | apply Kd.R_alloc | apply Kd.R_drewN | apply Kd.R_drew)); exact HO388.out) hb); have n2_ := Aside0.mk (Kd.R_lower ho0 (below_size (by repeat (first | (with_reducible first | exact HB.out | apply below_alloc | apply pw_below_drewN | apply below_drew1) | exact HB.out)))); have n3_ := Aside0.mk (below_step (by repeat (first | (with_reducible first | exact HB.out | apply below_alloc | apply pw_below_drewN | apply below_drew1) | exact HB.out)) hb); clear HO_5; clear HO388; clear HB; have HO_5 := n0_; have HO388 := n1_; have HO392 := n2_; have HB := n3_; clear n0_ n1_ n2_ n3_; (try clear hb); (try clear hb2); (try clear hk); (try clear hi); (try clear ho0); obtain ⟨Ao36, co36, eo36⟩ := Kd.R_slice HO_5.out; subst eo36))
                          go_ret
                          exact ⟨by first | rfl | (simp [errW_none, errW_some] <;> rfl) | (simp only [← hji14]; first | rfl | (simp [errW_none, errW_some] <;> rfl)) | (simp [*, errW_none, errW_some] <;> rfl), by repeat (first | (with_reducible first | exact HB.out | apply below_alloc | apply pw_below_drewN | apply below_drew1) | exact HB.out)⟩
                      · rw [if_neg c20] at H
                        have c20b0 : (t390 == 0) = false := beq_eq_false_iff_ne.mpr c20
                        have c20b1 : (t390 != 0) = true := bne_iff_ne.mpr c20
                        obtain rfl := Option.some.inj H
                        have q37 : ((ji14) : Int) ≤ ((l0.length : Int) : Int) := of_decide_eq_true (by first | (with_reducible assumption) | assumption)
                        obtain ⟨i037, hi037, _, hsz37, _⟩ := info_parts info33
                        have hroom37 : l0.length ≤ c0 := HC0.out
                        have hC37 : Kd.C k33 _ A0 l0.length l0 := HR0.out
                        have hcut37 := cut_to (P := Tryd.prog) 22 33 .i64 Tryd.underlying22 hi037 A0 l0.length c0 (ji14) (of_decide_eq_true (by first | (with_reducible assumption) | assumption)) q37 hroom37
                        have hr37 := Kd.C_take (m := ((ji14) : Int).toNat) hC37 (by omega)
                        have hy37 : y381.length = ((ji14) : Int).toNat := (by rw [Ny381.out, List.length_take]; omega)
                        rw [← Ny381.out] at hr37
                        rw [← hy37] at hcut37
                        have HR384 := Aside0.mk hr37
                        have HC384 := Aside0.mk (show y381.length ≤ c0 from by omega)
                        clear hr37 hC37 hroom37 hi037 hsz37
                        have KY37 := Aside0.mk hy37
                        clear hy37
                        replace q37 := eq_true q37
                        go_wp2_with (first | ((with_reducible refine gate_callee (f := 11) rfl ?_); refine goesL_ (some 50) rfl rfl Tryd.func11 (by kernel_rfl) rfl #[.slice A0 y381.length c0] rfl (by (try simp only [List.map_toArray, List.map_cons, List.map_nil]); first | done | rfl | (simp only [List.length_drop, List.length_take]; rfl)) ?_; (with_reducible refine (tsz_Encode.calls _ _ y381 t385 t386 _ ?side1 ?side2 A17.out ?sideL).mono ?_); (case sideL => exact Ld.LaidW.below HL.out (by repeat (first | (with_reducible first | exact HB.out | apply below_alloc | apply pw_below_drewN | apply below_drew1) | exact HB.out))); (case side1 => repeat (first | exact (Kd.C_below HR384.out HB.out) | (with_reducible refine Kd.C_alloc ?_ _) | (with_reducible refine Kd.C_drewN ?_ _) | (with_reducible refine Kd.C_drew ?_))); (case side2 => exact HC384.out); rintro e w38 ⟨v387, rfl, ho0, hb⟩; refine ⟨_, rfl, ?_⟩; have n0_ := Aside0.mk (Kd.R_elder' (by (with_reducible repeat (first | apply Kd.R_alloc | apply Kd.R_drewN | apply Kd.R_drew)); exact HO_5.out) (Kd.R_base ho0) hb); have n1_ := Aside0.mk (Kd.R_lower (Kd.R_new' ho0 (Kd.R_lt (by (with_reducible repeat (first | apply Kd.R_alloc | apply Kd.R_drewN | apply Kd.R_drew)); exact HO_5.out))) (below_size (by repeat (first | (with_reducible first | exact HB.out | apply below_alloc | apply pw_below_drewN | apply below_drew1) | exact HB.out)))); have n2_ := Aside0.mk (below_step (by repeat (first | (with_reducible first | exact HB.out | apply below_alloc | apply pw_below_drewN | apply below_drew1) | exact HB.out)) hb); clear HO_5; clear HB; have HO_5 := n0_; have HO388 := n1_; have HB := n2_; clear n0_ n1_ n2_; (try clear hb); (try clear hb2); (try clear hk); (try clear hi); (try clear ho0); obtain ⟨Ao39, co39, eo39⟩ := Kd.R_slice HO388.out; subst eo39) | ((with_reducible refine gate_callee (f := 19) rfl ?_); refine goesL_ (some 55) rfl rfl Tryd.func19 (by kernel_rfl) rfl #[.slice Ao39 t385.length co39] rfl (by (try simp only [List.map_toArray, List.map_cons, List.map_nil]); first | done | rfl | (simp only [List.length_drop, List.length_take]; rfl)) ?_; (with_reducible refine (tsz_Decode.calls _ _ t385 t389 t390 _ ?side1 ?side2 A18.out ?sideL).mono ?_); (case sideL => exact Ld.LaidW.below HL.out (by repeat (first | (with_reducible first | exact HB.out | apply below_alloc | apply pw_below_drewN | apply below_drew1) | exact HB.out))); (case side1 => repeat (first | exact (Kd.R_reads' HO388.out).2.2 | (with_reducible refine Kd.C_alloc ?_ _) | (with_reducible refine Kd.C_drewN ?_ _) | (with_reducible refine Kd.C_drew ?_))); (case side2 => exact (Kd.R_reads' HO388.out).2.1); rintro e w40 ⟨v391, rfl, ho0, hb⟩; refine ⟨_, rfl, ?_⟩; have n0_ := Aside0.mk (Kd.R_below (by (with_reducible repeat (first | apply Kd.R_alloc | apply Kd.R_drewN | apply Kd.R_drew)); exact HO_5.out) hb); have n1_ := Aside0.mk (Kd.R_below (by (with_reducible repeat (first | apply Kd.R_alloc | apply Kd.R_drewN | apply Kd.R_drew)); exact HO388.out) hb); have n2_ := Aside0.mk (Kd.R_lower ho0 (below_size (by repeat (first | (with_reducible first | exact HB.out | apply below_alloc | apply pw_below_drewN | apply below_drew1) | exact HB.out)))); have n3_ := Aside0.mk (below_step (by repeat (first | (with_reducible first | exact HB.out | apply below_alloc | apply pw_below_drewN | apply below_drew1) | exact HB.out)) hb); clear HO_5; clear HO388; clear HB; have HO_5 := n0_; have HO388 := n1_; have HO392 := n2_; have HB := n3_; clear n0_ n1_ n2_ n3_; (try clear hb); (try clear hb2); (try clear hk); (try clear hi); (try clear ho0)))
                        go_ret
                        exact ⟨by first | rfl | (simp [errW_none, errW_some] <;> rfl) | (simp only [← hji14]; first | rfl | (simp [errW_none, errW_some] <;> rfl)) | (simp [*, errW_none, errW_some] <;> rfl), by repeat (first | (with_reducible first | exact HB.out | apply below_alloc | apply pw_below_drewN | apply below_drew1) | exact HB.out)⟩
                    · rw [if_neg c19] at H
                      have c19b0 : (t386 == 0) = false := beq_eq_false_iff_ne.mpr c19
                      have c19b1 : (t386 != 0) = true := bne_iff_ne.mpr c19
                      obtain rfl := Option.some.inj H
                      have q41 : ((ji14) : Int) ≤ ((l0.length : Int) : Int) := of_decide_eq_true (by first | (with_reducible assumption) | assumption)
                      obtain ⟨i041, hi041, _, hsz41, _⟩ := info_parts info33
                      have hroom41 : l0.length ≤ c0 := HC0.out
                      have hC41 : Kd.C k33 _ A0 l0.length l0 := HR0.out
                      have hcut41 := cut_to (P := Tryd.prog) 22 33 .i64 Tryd.underlying22 hi041 A0 l0.length c0 (ji14) (of_decide_eq_true (by first | (with_reducible assumption) | assumption)) q41 hroom41
                      have hr41 := Kd.C_take (m := ((ji14) : Int).toNat) hC41 (by omega)
                      have hy41 : y381.length = ((ji14) : Int).toNat := (by rw [Ny381.out, List.length_take]; omega)
                      rw [← Ny381.out] at hr41
                      rw [← hy41] at hcut41
                      have HR384 := Aside0.mk hr41
                      have HC384 := Aside0.mk (show y381.length ≤ c0 from by omega)
                      clear hr41 hC41 hroom41 hi041 hsz41
                      have KY41 := Aside0.mk hy41
                      clear hy41
                      replace q41 := eq_true q41
                      go_wp2_with (first | ((with_reducible refine gate_callee (f := 11) rfl ?_); refine goesL_ (some 50) rfl rfl Tryd.func11 (by kernel_rfl) rfl #[.slice A0 y381.length c0] rfl (by (try simp only [List.map_toArray, List.map_cons, List.map_nil]); first | done | rfl | (simp only [List.length_drop, List.length_take]; rfl)) ?_; (with_reducible refine (tsz_Encode.calls _ _ y381 t385 t386 _ ?side1 ?side2 A17.out ?sideL).mono ?_); (case sideL => exact Ld.LaidW.below HL.out (by repeat (first | (with_reducible first | exact HB.out | apply below_alloc | apply pw_below_drewN | apply below_drew1) | exact HB.out))); (case side1 => repeat (first | exact (Kd.C_below HR384.out HB.out) | (with_reducible refine Kd.C_alloc ?_ _) | (with_reducible refine Kd.C_drewN ?_ _) | (with_reducible refine Kd.C_drew ?_))); (case side2 => exact HC384.out); rintro e w42 ⟨v387, rfl, ho0, hb⟩; refine ⟨_, rfl, ?_⟩; have n0_ := Aside0.mk (Kd.R_elder' (by (with_reducible repeat (first | apply Kd.R_alloc | apply Kd.R_drewN | apply Kd.R_drew)); exact HO_5.out) (Kd.R_base ho0) hb); have n1_ := Aside0.mk (Kd.R_lower (Kd.R_new' ho0 (Kd.R_lt (by (with_reducible repeat (first | apply Kd.R_alloc | apply Kd.R_drewN | apply Kd.R_drew)); exact HO_5.out))) (below_size (by repeat (first | (with_reducible first | exact HB.out | apply below_alloc | apply pw_below_drewN | apply below_drew1) | exact HB.out)))); have n2_ := Aside0.mk (below_step (by repeat (first | (with_reducible first | exact HB.out | apply below_alloc | apply pw_below_drewN | apply below_drew1) | exact HB.out)) hb); clear HO_5; clear HB; have HO_5 := n0_; have HO388 := n1_; have HB := n2_; clear n0_ n1_ n2_; (try clear hb); (try clear hb2); (try clear hk); (try clear hi); (try clear ho0); obtain ⟨Ao43, co43, eo43⟩ := Kd.R_slice HO388.out; subst eo43) | ((with_reducible refine gate_callee (f := 19) rfl ?_); refine goesL_ (some 55) rfl rfl Tryd.func19 (by kernel_rfl) rfl #[.slice Ao43 t385.length co43] rfl (by (try simp only [List.map_toArray, List.map_cons, List.map_nil]); first | done | rfl | (simp only [List.length_drop, List.length_take]; rfl)) ?_; (with_reducible refine (tsz_Decode.calls _ _ t385 t389 t390 _ ?side1 ?side2 A18.out ?sideL).mono ?_); (case sideL => exact Ld.LaidW.below HL.out (by repeat (first | (with_reducible first | exact HB.out | apply below_alloc | apply pw_below_drewN | apply below_drew1) | exact HB.out))); (case side1 => repeat (first | exact (Kd.R_reads' HO388.out).2.2 | (with_reducible refine Kd.C_alloc ?_ _) | (with_reducible refine Kd.C_drewN ?_ _) | (with_reducible refine Kd.C_drew ?_))); (case side2 => exact (Kd.R_reads' HO388.out).2.1); rintro e w44 ⟨v391, rfl, ho0, hb⟩; refine ⟨_, rfl, ?_⟩; have n0_ := Aside0.mk (Kd.R_below (by (with_reducible repeat (first | apply Kd.R_alloc | apply Kd.R_drewN | apply Kd.R_drew)); exact HO_5.out) hb); have n1_ := Aside0.mk (Kd.R_below (by (with_reducible repeat (first | apply Kd.R_alloc | apply Kd.R_drewN | apply Kd.R_drew)); exact HO388.out) hb); have n2_ := Aside0.mk (Kd.R_lower ho0 (below_size (by repeat (first | (with_reducible first | exact HB.out | apply below_alloc | apply pw_below_drewN | apply below_drew1) | exact HB.out)))); have n3_ := Aside0.mk (below_step (by repeat (first | (with_reducible first | exact HB.out | apply below_alloc | apply pw_below_drewN | apply below_drew1) | exact HB.out)) hb); clear HO_5; clear HO388; clear HB; have HO_5 := n0_; have HO388 := n1_; have HO392 := n2_; have HB := n3_; clear n0_ n1_ n2_ n3_; (try clear hb); (try clear hb2); (try clear hk); (try clear hi); (try clear ho0)))
                      go_ret
                      exact ⟨by first | rfl | (simp [errW_none, errW_some] <;> rfl) | (simp only [← hji14]; first | rfl | (simp [errW_none, errW_some] <;> rfl)) | (simp [*, errW_none, errW_some] <;> rfl), by repeat (first | (with_reducible first | exact HB.out | apply below_alloc | apply pw_below_drewN | apply below_drew1) | exact HB.out)⟩
                  · rw [if_neg c16] at H
                    exact absurd H (by simp)
                · rw [if_neg c15] at H
                  exact absurd H (by simp)

end Go.Proofs.YtmnlbedgkjnodaaDoor.QB
