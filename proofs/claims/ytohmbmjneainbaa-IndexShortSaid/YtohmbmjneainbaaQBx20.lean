/- What functions of the translation come to, each as a Lean function, and a proof that the call comes to just that; or a law's row, out of its plain law. Written by mp.py, a program of this session, which runs the printer of the kit with stand-in bodies for some library functions. -/
import Derived.Test.YtohmbmjneainbaaIlQ
import Derived.Test.YtohmbmjneainbaaQBx0
import Derived.Test.YtohmbmjneainbaaQBx2
import Derived.Test.YtohmbmjneainbaaQBx6
import Derived.Test.YtohmbmjneainbaaQBx8
import Derived.Test.YtohmbmjneainbaaQBx9
import Derived.Test.YtohmbmjneainbaaQBx15
namespace Go.Proofs.Ytohmbmjneainbaa.QB
open Go.RowKit Go.Proofs.YtohmbmjneainbaaW.PrintWords Go.Proofs.YtohmbmjneainbaaW.PrintLast Go.Proofs.YtohmbmjneainbaaW.PrintMore
attribute [local go_sem] max2_int min2_int max_two min_two max_three min_three max_four min_four   -- for this text's walks alone
set_option linter.unusedVariables false
set_option linter.unusedSimpArgs false

/-! ### thermographlaw08_IndexShort: function 6 -/
mutual
def thermographlaw08_IndexShort.j0 : Nat → List (S42) → Int → Bool → Option (Bool)
  | 0, _, _, _ => none
  | k + 1, x0, x1, x21 => if x21 = true then (some true) else ((index_Encode.f k x0).bind fun bt361 => ((thermographlaw08_theirs.f k x0).bind fun t368 => ((thermographref08_Check.f k t368).bind fun t371 => (if bt361.2.2 = t371 then (thermographlaw08_IndexShort.j1 k x0 x1 bt361.1 bt361.2.2 (bt361.2.2 != 0)) else (thermographlaw08_IndexShort.j1 k x0 x1 bt361.1 bt361.2.2 true)))))
def thermographlaw08_IndexShort.j1 : Nat → List (S42) → Int → List Int → Int → Bool → Option (Bool)
  | 0, _, _, _, _, _ => none
  | k + 1, x0, x1, x5, x7, x36 => if x36 = true then (if x7 = 0 then (some false) else (some ((x5.length : Int) == 0))) else (if 0 ≤ (wrap64 ((x0.length : Int) - 1)) then (if (wrap64 ((x0.length : Int) - 1)) ≤ (x0.length : Int) then ((index_Encode.f k (x0.take ((wrap64 ((x0.length : Int) - 1)) : Int).toNat)).bind fun bt376 => (if (x5.length : Int) ≤ (bt376.1.length : Int) then (some false) else (if (wrap64 ((x5.length : Int) - (bt376.1.length : Int))) = 0 then (none) else (if 0 ≤ (wrap64 ((wrap64 ((bt376.1.length : Int) + 1)) + (Int.tmod (wrap64 ((wrap64 ((Int.tmod x1 (wrap64 ((x5.length : Int) - (bt376.1.length : Int)))) + (x5.length : Int))) - (bt376.1.length : Int))) (wrap64 ((x5.length : Int) - (bt376.1.length : Int)))))) then (if (wrap64 ((wrap64 ((bt376.1.length : Int) + 1)) + (Int.tmod (wrap64 ((wrap64 ((Int.tmod x1 (wrap64 ((x5.length : Int) - (bt376.1.length : Int)))) + (x5.length : Int))) - (bt376.1.length : Int))) (wrap64 ((x5.length : Int) - (bt376.1.length : Int)))))) ≤ (x5.length : Int) then ((index_List.f (x5.take ((wrap64 ((wrap64 ((bt376.1.length : Int) + 1)) + (Int.tmod (wrap64 ((wrap64 ((Int.tmod x1 (wrap64 ((x5.length : Int) - (bt376.1.length : Int)))) + (x5.length : Int))) - (bt376.1.length : Int))) (wrap64 ((x5.length : Int) - (bt376.1.length : Int)))))) : Int).toNat)).bind fun bt387 => ((index_List.f bt376.1).bind fun bt391 => (if ((bt387.2 == 0) == ((wrap64 ((wrap64 ((bt376.1.length : Int) + 1)) + (Int.tmod (wrap64 ((wrap64 ((Int.tmod x1 (wrap64 ((x5.length : Int) - (bt376.1.length : Int)))) + (x5.length : Int))) - (bt376.1.length : Int))) (wrap64 ((x5.length : Int) - (bt376.1.length : Int)))))) == (x5.length : Int))) = true then (if bt391.2 = 0 then (some ((bt391.1.length : Int) == (wrap64 ((x0.length : Int) - 1)))) else (some false)) else (some false)))) else (none)) else (none))))) else (none)) else (none))
end
def thermographlaw08_IndexShort.f (k : Nat) (l0 : List (S42)) (a1 : Int) : Option (Bool) := (thermographlaw08_heavy.f k l0).bind fun t360 => (if t360 = true then (thermographlaw08_IndexShort.j0 k l0 a1 true) else (thermographlaw08_IndexShort.j0 k l0 a1 ((l0.length : Int) == 0)))
theorem thermographlaw08_IndexShort.mono_l : ∀ k, (∀ y0 y1 y2, LeO (thermographlaw08_IndexShort.j0 k y0 y1 y2) (thermographlaw08_IndexShort.j0 (k + 1) y0 y1 y2)) ∧ (∀ y0 y1 y2 y3 y4, LeO (thermographlaw08_IndexShort.j1 k y0 y1 y2 y3 y4) (thermographlaw08_IndexShort.j1 (k + 1) y0 y1 y2 y3 y4))
  | 0 => ⟨fun _ _ _ r h => by simp [thermographlaw08_IndexShort.j0] at h, fun _ _ _ _ _ r h => by simp [thermographlaw08_IndexShort.j1] at h⟩
  | k + 1 => by
    obtain ⟨ih0, ih1⟩ := thermographlaw08_IndexShort.mono_l k
    refine ⟨?_, ?_⟩
    · intro y0 y1 y2
      unfold thermographlaw08_IndexShort.j0
      repeat' first
      | (with_reducible exact ih0 _ _ _)
      | (with_reducible exact ih1 _ _ _ _ _)
      | (with_reducible exact index_Encode.mono _ _)
      | (with_reducible exact thermographlaw08_heavy.mono _ _)
      | (with_reducible exact thermographlaw08_theirs.mono _ _)
      | (with_reducible exact thermographref08_Check.mono _ _)
      | (with_reducible exact LeO.refl _)
      | (with_reducible exact LeO.none _)
      | (with_reducible refine LeO.ite ?_ ?_)
      | (with_reducible refine LeO.bind ?_ (fun _ => ?_))
      | exact ih0 _ _ _
      | exact ih1 _ _ _ _ _
      | exact index_Encode.mono _ _
      | exact thermographlaw08_heavy.mono _ _
      | exact thermographlaw08_theirs.mono _ _
      | exact thermographref08_Check.mono _ _
      | exact LeO.none _
      | refine LeO.ite ?_ ?_
      | refine LeO.bind ?_ (fun _ => ?_)
    · intro y0 y1 y2 y3 y4
      unfold thermographlaw08_IndexShort.j1
      repeat' first
      | (with_reducible exact ih0 _ _ _)
      | (with_reducible exact ih1 _ _ _ _ _)
      | (with_reducible exact index_Encode.mono _ _)
      | (with_reducible exact thermographlaw08_heavy.mono _ _)
      | (with_reducible exact thermographlaw08_theirs.mono _ _)
      | (with_reducible exact thermographref08_Check.mono _ _)
      | (with_reducible exact LeO.refl _)
      | (with_reducible exact LeO.none _)
      | (with_reducible refine LeO.ite ?_ ?_)
      | (with_reducible refine LeO.bind ?_ (fun _ => ?_))
      | exact ih0 _ _ _
      | exact ih1 _ _ _ _ _
      | exact index_Encode.mono _ _
      | exact thermographlaw08_heavy.mono _ _
      | exact thermographlaw08_theirs.mono _ _
      | exact thermographref08_Check.mono _ _
      | exact LeO.none _
      | refine LeO.ite ?_ ?_
      | refine LeO.bind ?_ (fun _ => ?_)
theorem thermographlaw08_IndexShort.mono : ∀ a0 a1 k, LeO (thermographlaw08_IndexShort.f k a0 a1) (thermographlaw08_IndexShort.f (k + 1) a0 a1) := by
  intro a0 a1 k
  obtain ⟨ih0, ih1⟩ := thermographlaw08_IndexShort.mono_l k
  unfold thermographlaw08_IndexShort.f
  repeat' first
      | (with_reducible exact ih0 _ _ _)
      | (with_reducible exact ih1 _ _ _ _ _)
      | (with_reducible exact index_Encode.mono _ _)
      | (with_reducible exact thermographlaw08_heavy.mono _ _)
      | (with_reducible exact thermographlaw08_theirs.mono _ _)
      | (with_reducible exact thermographref08_Check.mono _ _)
      | (with_reducible exact LeO.refl _)
      | (with_reducible exact LeO.none _)
      | (with_reducible refine LeO.ite ?_ ?_)
      | (with_reducible refine LeO.bind ?_ (fun _ => ?_))
      | exact ih0 _ _ _
      | exact ih1 _ _ _ _ _
      | exact index_Encode.mono _ _
      | exact thermographlaw08_heavy.mono _ _
      | exact thermographlaw08_theirs.mono _ _
      | exact thermographref08_Check.mono _ _
      | exact LeO.none _
      | refine LeO.ite ?_ ?_
      | refine LeO.bind ?_ (fun _ => ?_)
set_option maxHeartbeats 8000000 in
set_option maxRecDepth 100000 in
theorem thermographlaw08_IndexShort.calls (k : Nat) (A0 : Option Addr) (c0 : Nat) (l0 : List (S42)) (a1 : Int) (r : Bool) (w : World) (hr0 : Kd.C k42 w A0 l0.length l0) (hc0 : l0.length ≤ c0) (h : thermographlaw08_IndexShort.f k l0 a1 = some r) :
    Calls Try.prog 6 #[.slice A0 l0.length c0, .int .i64 a1] w fun e w' => e = .returned (.bool r) ∧ Below w.heap.size w w' := by
  have HR0 := Aside0.mk hr0
  have HC0 := Aside0.mk hc0
  clear hr0 hc0
  have HB := Aside0.mk (Below.refl w.heap.size w)
  have H : ((thermographlaw08_heavy.f k l0).bind fun t360 => (if t360 = true then (thermographlaw08_IndexShort.j0 k l0 a1 true) else (thermographlaw08_IndexShort.j0 k l0 a1 ((l0.length : Int) == 0)))) = some r := h
  clear h
  have HC3 := Aside0.mk H
  clear H
  go_enter Try.func6, Try.ntmps6
  go_upto_region 1 with (fail)
  go_cut [21] (fun v21 wc => ∃ (kq : Nat) (x21_2 : Bool), v21 = .bool x21_2 ∧ Aside0 (thermographlaw08_IndexShort.j0 kq l0 a1 x21_2 = some r) ∧ Aside0 (kq ≤ k) ∧ Aside0 (Below w.heap.size w wc))
  case first =>
    have H := HC3.out
    clear HC3
    replace H := Option.bind_eq_some_iff.mp H
    obtain ⟨t360, A40, H⟩ := H
    replace H : (if t360 = true then (thermographlaw08_IndexShort.j0 k l0 a1 true) else (thermographlaw08_IndexShort.j0 k l0 a1 ((l0.length : Int) == 0))) = some r := H
    have A4 := Aside0.mk A40
    clear A40
    by_cases c5 : t360 = true
    · subst c5
      have H1 : (thermographlaw08_IndexShort.j0 k l0 a1 true) = some r := by rw [if_pos rfl] at H; exact H
      clear H
      have H := H1
      clear H1
      have H' := Aside0.mk H
      clear H
      go_wp2_with (first | ((with_reducible refine gate_callee (f := 8) rfl ?_); refine goesL_ (some 16) rfl rfl Try.func8 (by kernel_rfl) rfl #[.slice A0 l0.length c0] rfl (by (try simp only [List.map_toArray, List.map_cons, List.map_nil]); first | done | rfl | (simp only [List.length_drop, List.length_take]; rfl)) ?_; (with_reducible refine (thermographlaw08_heavy.calls k _ _ l0 true _ ?side1 ?side2 A4.out).mono ?_); (case side1 => repeat (first | exact (Kd.C_below HR0.out HB.out) | (with_reducible refine Kd.C_alloc ?_ _) | (with_reducible refine Kd.C_drewN ?_ _) | (with_reducible refine Kd.C_drew ?_))); (case side2 => exact HC0.out); rintro e w6 ⟨rfl, hb⟩; refine ⟨_, rfl, ?_⟩; have n0_ := Aside0.mk (below_step (by repeat (first | (with_reducible first | exact HB.out | apply below_alloc | apply pw_below_drewN | apply below_drew1) | exact HB.out)) hb); clear HB; have HB := n0_; clear n0_; (try clear hb); (try clear hb2); (try clear hk); (try clear hi)))
      go_meet
      case rel => exact ⟨_, (true), (by first | rfl | (simp; done) | (simp [*]; done)), H', ⟨by first | omega | exact Nat.le_refl _⟩, ⟨by repeat (first | (with_reducible first | exact HB.out | apply below_alloc | apply pw_below_drewN | apply below_drew1) | exact HB.out)⟩⟩
    · replace c5 := Bool.eq_false_iff.mpr c5
      subst c5
      have H1 : (thermographlaw08_IndexShort.j0 k l0 a1 ((l0.length : Int) == 0)) = some r := by rw [if_neg (show ¬ (false = true) by decide)] at H; exact H
      clear H
      have H := H1
      clear H1
      have H' := Aside0.mk H
      clear H
      go_wp2_with (first | ((with_reducible refine gate_callee (f := 8) rfl ?_); refine goesL_ (some 16) rfl rfl Try.func8 (by kernel_rfl) rfl #[.slice A0 l0.length c0] rfl (by (try simp only [List.map_toArray, List.map_cons, List.map_nil]); first | done | rfl | (simp only [List.length_drop, List.length_take]; rfl)) ?_; (with_reducible refine (thermographlaw08_heavy.calls k _ _ l0 false _ ?side1 ?side2 A4.out).mono ?_); (case side1 => repeat (first | exact (Kd.C_below HR0.out HB.out) | (with_reducible refine Kd.C_alloc ?_ _) | (with_reducible refine Kd.C_drewN ?_ _) | (with_reducible refine Kd.C_drew ?_))); (case side2 => exact HC0.out); rintro e w7 ⟨rfl, hb⟩; refine ⟨_, rfl, ?_⟩; have n0_ := Aside0.mk (below_step (by repeat (first | (with_reducible first | exact HB.out | apply below_alloc | apply pw_below_drewN | apply below_drew1) | exact HB.out)) hb); clear HB; have HB := n0_; clear n0_; (try clear hb); (try clear hb2); (try clear hk); (try clear hi)))
      go_meet
      case rel => exact ⟨_, (((l0.length : Int) == 0)), (by first | rfl | (simp; done) | (simp [*]; done)), H', ⟨by first | omega | exact Nat.le_refl _⟩, ⟨by repeat (first | (with_reducible first | exact HB.out | apply below_alloc | apply pw_below_drewN | apply below_drew1) | exact HB.out)⟩⟩
  case rest =>
    clear HC3
    try clear p2
    try clear c5
    try clear c6
    obtain ⟨kq, x21_2, rfl, HA, HJ2, HB⟩ := hcut
    cases kq with
    | zero => exact absurd HA.out (by simp [thermographlaw08_IndexShort.j0])
    | succ kj2 =>
      have H := HA.out
      clear HA
      simp only [thermographlaw08_IndexShort.j0] at H
      by_cases c8 : x21_2 = true
      · subst c8
        have H1 : (some true) = some r := by rw [if_pos rfl] at H; exact H
        clear H
        have H := H1
        clear H1
        obtain rfl := Option.some.inj H
        go_wp2
        go_ret
        exact ⟨by first | rfl | (simp [errW_none, errW_some] <;> rfl) | (simp [*, errW_none, errW_some] <;> rfl), by repeat (first | (with_reducible first | exact HB.out | apply below_alloc | apply pw_below_drewN | apply below_drew1) | exact HB.out)⟩
      · replace c8 := Bool.eq_false_iff.mpr c8
        subst c8
        have H1 : ((index_Encode.f kj2 l0).bind fun bt361 => ((thermographlaw08_theirs.f kj2 l0).bind fun t368 => ((thermographref08_Check.f kj2 t368).bind fun t371 => (if bt361.2.2 = t371 then (thermographlaw08_IndexShort.j1 kj2 l0 a1 bt361.1 bt361.2.2 (bt361.2.2 != 0)) else (thermographlaw08_IndexShort.j1 kj2 l0 a1 bt361.1 bt361.2.2 true))))) = some r := by rw [if_neg (show ¬ (false = true) by decide)] at H; exact H
        clear H
        have H := H1
        clear H1
        replace H := Option.bind_eq_some_iff.mp H
        obtain ⟨⟨t361, t362, t363⟩, A90, H⟩ := H
        replace H : ((thermographlaw08_theirs.f kj2 l0).bind fun t368 => ((thermographref08_Check.f kj2 t368).bind fun t371 => (if t363 = t371 then (thermographlaw08_IndexShort.j1 kj2 l0 a1 t361 t363 (t363 != 0)) else (thermographlaw08_IndexShort.j1 kj2 l0 a1 t361 t363 true)))) = some r := H
        have A9 := Aside0.mk A90
        clear A90
        have HC10 := Aside0.mk H
        clear H
        go_upto_region 4 with (first | ((with_reducible refine gate_callee (f := 9) rfl ?_); refine goesL_ (some 24) rfl rfl Try.func9 (by kernel_rfl) rfl #[.slice A0 l0.length c0] rfl (by (try simp only [List.map_toArray, List.map_cons, List.map_nil]); first | done | rfl | (simp only [List.length_drop, List.length_take]; rfl)) ?_; (with_reducible refine (index_Encode.calls kj2 _ _ l0 t361 t362 t363 _ ?side1 ?side2 A9.out).mono ?_); (case side1 => repeat (first | exact (Kd.C_below HR0.out HB.out) | (with_reducible refine Kd.C_alloc ?_ _) | (with_reducible refine Kd.C_drewN ?_ _) | (with_reducible refine Kd.C_drew ?_))); (case side2 => exact HC0.out); rintro e w11 ⟨v364, v366, rfl, ho0, ho1, hb⟩; refine ⟨_, rfl, ?_⟩; have n0_ := Aside0.mk (Kd.R_lower ho0 (below_size (by repeat (first | (with_reducible first | exact HB.out | apply below_alloc | apply pw_below_drewN | apply below_drew1) | exact HB.out)))); have n1_ := Aside0.mk (Kd.R_lower ho1 (below_size (by repeat (first | (with_reducible first | exact HB.out | apply below_alloc | apply pw_below_drewN | apply below_drew1) | exact HB.out)))); have n2_ := Aside0.mk (below_step (by repeat (first | (with_reducible first | exact HB.out | apply below_alloc | apply pw_below_drewN | apply below_drew1) | exact HB.out)) hb); clear HB; have HO365 := n0_; have HO367 := n1_; have HB := n2_; clear n0_ n1_ n2_; (try clear hb); (try clear hb2); (try clear hk); (try clear hi); (try clear ho0); (try clear ho1)))
        (try simp only [Act.put, List.setIfInBounds_toArray, List.set_cons_zero, List.set_cons_succ])
        go_cut [36] (fun v36 wc => ∃ (kq : Nat) (x36_9 : Bool), v36 = .bool x36_9 ∧ Aside0 (thermographlaw08_IndexShort.j1 kq l0 a1 t361 t363 x36_9 = some r) ∧ Aside0 (kq ≤ kj2) ∧ Aside0 (Kd.R (Kd.int .u8) 5 wc w.heap.size (fun _ => True) v364 t361) ∧ Aside0 (Below w.heap.size w wc))
        case first =>
          have H := HC10.out
          clear HC10
          replace H := Option.bind_eq_some_iff.mp H
          obtain ⟨t368, A120, H⟩ := H
          replace H : ((thermographref08_Check.f kj2 t368).bind fun t371 => (if t363 = t371 then (thermographlaw08_IndexShort.j1 kj2 l0 a1 t361 t363 (t363 != 0)) else (thermographlaw08_IndexShort.j1 kj2 l0 a1 t361 t363 true))) = some r := H
          have A12 := Aside0.mk A120
          clear A120
          replace H := Option.bind_eq_some_iff.mp H
          obtain ⟨t371, A130, H⟩ := H
          replace H : (if t363 = t371 then (thermographlaw08_IndexShort.j1 kj2 l0 a1 t361 t363 (t363 != 0)) else (thermographlaw08_IndexShort.j1 kj2 l0 a1 t361 t363 true)) = some r := H
          have A13 := Aside0.mk A130
          clear A130
          by_cases c14 : t363 = t371
          · rw [if_pos c14] at H
            have c14b0 : (t363 == t371) = true := beq_iff_eq.mpr c14
            have c14b1 : (t363 != t371) = false := bne_eq_false_iff_eq.mpr c14
            clear c14
            (first | rw [c14b0] | (simp only [i64_w, i32_w]; rw [c14b0]) | skip)
            have H' := Aside0.mk H
            clear H
            go_wp2_with (first | ((with_reducible refine gate_callee (f := 11) rfl ?_); refine goesL_ (some 30) rfl rfl Try.func11 (by kernel_rfl) rfl #[.slice A0 l0.length c0] rfl (by (try simp only [List.map_toArray, List.map_cons, List.map_nil]); first | done | rfl | (simp only [List.length_drop, List.length_take]; rfl)) ?_; (with_reducible refine (thermographlaw08_theirs.calls kj2 _ _ l0 t368 _ ?side1 ?side2 A12.out).mono ?_); (case side1 => repeat (first | exact (Kd.C_below HR0.out HB.out) | (with_reducible refine Kd.C_alloc ?_ _) | (with_reducible refine Kd.C_drewN ?_ _) | (with_reducible refine Kd.C_drew ?_))); (case side2 => exact HC0.out); rintro e w15 ⟨v369, rfl, ho0, hb⟩; refine ⟨_, rfl, ?_⟩; have n0_ := Aside0.mk (Kd.R_below (by (with_reducible repeat (first | apply Kd.R_alloc | apply Kd.R_drewN | apply Kd.R_drew)); exact HO365.out) hb); have n1_ := Aside0.mk (Kd.R_below (by (with_reducible repeat (first | apply Kd.R_alloc | apply Kd.R_drewN | apply Kd.R_drew)); exact HO367.out) hb); have n2_ := Aside0.mk (Kd.R_lower ho0 (below_size (by repeat (first | (with_reducible first | exact HB.out | apply below_alloc | apply pw_below_drewN | apply below_drew1) | exact HB.out)))); have n3_ := Aside0.mk (below_step (by repeat (first | (with_reducible first | exact HB.out | apply below_alloc | apply pw_below_drewN | apply below_drew1) | exact HB.out)) hb); clear HO365; clear HO367; clear HB; have HO365 := n0_; have HO367 := n1_; have HO370 := n2_; have HB := n3_; clear n0_ n1_ n2_ n3_; (try clear hb); (try clear hb2); (try clear hk); (try clear hi); (try clear ho0); obtain ⟨Ao16, co16, eo16⟩ := Kd.R_slice HO370.out; subst eo16) | ((with_reducible refine gate_callee (f := 10) rfl ?_); refine goesL_ (some 31) rfl rfl Try.func10 (by kernel_rfl) rfl #[.slice Ao16 t368.length co16] rfl (by (try simp only [List.map_toArray, List.map_cons, List.map_nil]); first | done | rfl | (simp only [List.length_drop, List.length_take]; rfl)) ?_; (with_reducible refine (thermographref08_Check.calls kj2 _ _ t368 t371 _ ?side1 ?side2 A13.out).mono ?_); (case side1 => repeat (first | exact (Kd.R_reads' HO370.out).2.2 | (with_reducible refine Kd.C_alloc ?_ _) | (with_reducible refine Kd.C_drewN ?_ _) | (with_reducible refine Kd.C_drew ?_))); (case side2 => exact (Kd.R_reads' HO370.out).2.1); rintro e w' ⟨rfl, ⟨nd, rfl⟩⟩; refine ⟨_, rfl, ?_⟩))
            go_meet
            case rel => exact ⟨_, ((t363 != 0)), (by first | rfl | (simp; done) | (simp [*]; done)), H', ⟨by have := HJ2.out; first | omega | exact Nat.le_refl _⟩, ⟨by (with_reducible repeat (first | apply Kd.R_alloc | apply Kd.R_drewN | apply Kd.R_drew)); exact Kd.R_mono HO365.out (fun _ hk => trivial)⟩, ⟨by repeat (first | (with_reducible first | exact HB.out | apply below_alloc | apply pw_below_drewN | apply below_drew1) | exact HB.out)⟩⟩
          · rw [if_neg c14] at H
            have c14b0 : (t363 == t371) = false := beq_eq_false_iff_ne.mpr c14
            have c14b1 : (t363 != t371) = true := bne_iff_ne.mpr c14
            (first | rw [c14b0] | (simp only [i64_w, i32_w]; rw [c14b0]) | skip)
            have H' := Aside0.mk H
            clear H
            go_wp2_with (first | ((with_reducible refine gate_callee (f := 11) rfl ?_); refine goesL_ (some 30) rfl rfl Try.func11 (by kernel_rfl) rfl #[.slice A0 l0.length c0] rfl (by (try simp only [List.map_toArray, List.map_cons, List.map_nil]); first | done | rfl | (simp only [List.length_drop, List.length_take]; rfl)) ?_; (with_reducible refine (thermographlaw08_theirs.calls kj2 _ _ l0 t368 _ ?side1 ?side2 A12.out).mono ?_); (case side1 => repeat (first | exact (Kd.C_below HR0.out HB.out) | (with_reducible refine Kd.C_alloc ?_ _) | (with_reducible refine Kd.C_drewN ?_ _) | (with_reducible refine Kd.C_drew ?_))); (case side2 => exact HC0.out); rintro e w17 ⟨v369, rfl, ho0, hb⟩; refine ⟨_, rfl, ?_⟩; have n0_ := Aside0.mk (Kd.R_below (by (with_reducible repeat (first | apply Kd.R_alloc | apply Kd.R_drewN | apply Kd.R_drew)); exact HO365.out) hb); have n1_ := Aside0.mk (Kd.R_below (by (with_reducible repeat (first | apply Kd.R_alloc | apply Kd.R_drewN | apply Kd.R_drew)); exact HO367.out) hb); have n2_ := Aside0.mk (Kd.R_lower ho0 (below_size (by repeat (first | (with_reducible first | exact HB.out | apply below_alloc | apply pw_below_drewN | apply below_drew1) | exact HB.out)))); have n3_ := Aside0.mk (below_step (by repeat (first | (with_reducible first | exact HB.out | apply below_alloc | apply pw_below_drewN | apply below_drew1) | exact HB.out)) hb); clear HO365; clear HO367; clear HB; have HO365 := n0_; have HO367 := n1_; have HO370 := n2_; have HB := n3_; clear n0_ n1_ n2_ n3_; (try clear hb); (try clear hb2); (try clear hk); (try clear hi); (try clear ho0); obtain ⟨Ao18, co18, eo18⟩ := Kd.R_slice HO370.out; subst eo18) | ((with_reducible refine gate_callee (f := 10) rfl ?_); refine goesL_ (some 31) rfl rfl Try.func10 (by kernel_rfl) rfl #[.slice Ao18 t368.length co18] rfl (by (try simp only [List.map_toArray, List.map_cons, List.map_nil]); first | done | rfl | (simp only [List.length_drop, List.length_take]; rfl)) ?_; (with_reducible refine (thermographref08_Check.calls kj2 _ _ t368 t371 _ ?side1 ?side2 A13.out).mono ?_); (case side1 => repeat (first | exact (Kd.R_reads' HO370.out).2.2 | (with_reducible refine Kd.C_alloc ?_ _) | (with_reducible refine Kd.C_drewN ?_ _) | (with_reducible refine Kd.C_drew ?_))); (case side2 => exact (Kd.R_reads' HO370.out).2.1); rintro e w' ⟨rfl, ⟨nd, rfl⟩⟩; refine ⟨_, rfl, ?_⟩))
            go_meet
            case rel => exact ⟨_, (true), (by first | rfl | (simp; done) | (simp [*]; done)), H', ⟨by have := HJ2.out; first | omega | exact Nat.le_refl _⟩, ⟨by (with_reducible repeat (first | apply Kd.R_alloc | apply Kd.R_drewN | apply Kd.R_drew)); exact Kd.R_mono HO365.out (fun _ hk => trivial)⟩, ⟨by repeat (first | (with_reducible first | exact HB.out | apply below_alloc | apply pw_below_drewN | apply below_drew1) | exact HB.out)⟩⟩
        case rest =>
          clear HC10
          try clear c1
          try clear p2
          try clear c5
          try clear c6
          try clear c8
          try clear c9
          try clear c10
          try clear c11
          try clear c14
          try clear c14b0
          try clear c14b1
          try clear p2
          obtain ⟨kq, x36_9, rfl, HA, HJ9, HO_5, HB⟩ := hcut
          cases kq with
          | zero => exact absurd HA.out (by simp [thermographlaw08_IndexShort.j1])
          | succ kj9 =>
            have H := HA.out
            clear HA
            simp only [thermographlaw08_IndexShort.j1] at H
            by_cases c19 : x36_9 = true
            · subst c19
              have H1 : (if t363 = 0 then (some false) else (some ((t361.length : Int) == 0))) = some r := by rw [if_pos rfl] at H; exact H
              clear H
              have H := H1
              clear H1
              by_cases c20 : t363 = 0
              · rw [if_pos c20] at H
                have c20b0 : (t363 == 0) = true := beq_iff_eq.mpr c20
                have c20b1 : (t363 != 0) = false := bne_eq_false_iff_eq.mpr c20
                clear c20
                obtain rfl := Option.some.inj H
                go_wp2
                go_ret
                exact ⟨by first | rfl | (simp [errW_none, errW_some] <;> rfl) | (simp [*, errW_none, errW_some] <;> rfl), by repeat (first | (with_reducible first | exact HB.out | apply below_alloc | apply pw_below_drewN | apply below_drew1) | exact HB.out)⟩
              · rw [if_neg c20] at H
                have c20b0 : (t363 == 0) = false := beq_eq_false_iff_ne.mpr c20
                have c20b1 : (t363 != 0) = true := bne_iff_ne.mpr c20
                obtain rfl := Option.some.inj H
                obtain ⟨Ao21, co21, eo21⟩ := Kd.R_slice HO_5.out
                subst eo21
                go_wp2
                go_ret
                exact ⟨by first | rfl | (simp [errW_none, errW_some] <;> rfl) | (simp [*, errW_none, errW_some] <;> rfl), by repeat (first | (with_reducible first | exact HB.out | apply below_alloc | apply pw_below_drewN | apply below_drew1) | exact HB.out)⟩
            · replace c19 := Bool.eq_false_iff.mpr c19
              subst c19
              have H1 : (if 0 ≤ (wrap64 ((l0.length : Int) - 1)) then (if (wrap64 ((l0.length : Int) - 1)) ≤ (l0.length : Int) then ((index_Encode.f kj9 (l0.take ((wrap64 ((l0.length : Int) - 1)) : Int).toNat)).bind fun bt376 => (if (t361.length : Int) ≤ (bt376.1.length : Int) then (some false) else (if (wrap64 ((t361.length : Int) - (bt376.1.length : Int))) = 0 then (none) else (if 0 ≤ (wrap64 ((wrap64 ((bt376.1.length : Int) + 1)) + (Int.tmod (wrap64 ((wrap64 ((Int.tmod a1 (wrap64 ((t361.length : Int) - (bt376.1.length : Int)))) + (t361.length : Int))) - (bt376.1.length : Int))) (wrap64 ((t361.length : Int) - (bt376.1.length : Int)))))) then (if (wrap64 ((wrap64 ((bt376.1.length : Int) + 1)) + (Int.tmod (wrap64 ((wrap64 ((Int.tmod a1 (wrap64 ((t361.length : Int) - (bt376.1.length : Int)))) + (t361.length : Int))) - (bt376.1.length : Int))) (wrap64 ((t361.length : Int) - (bt376.1.length : Int)))))) ≤ (t361.length : Int) then ((index_List.f (t361.take ((wrap64 ((wrap64 ((bt376.1.length : Int) + 1)) + (Int.tmod (wrap64 ((wrap64 ((Int.tmod a1 (wrap64 ((t361.length : Int) - (bt376.1.length : Int)))) + (t361.length : Int))) - (bt376.1.length : Int))) (wrap64 ((t361.length : Int) - (bt376.1.length : Int)))))) : Int).toNat)).bind fun bt387 => ((index_List.f bt376.1).bind fun bt391 => (if ((bt387.2 == 0) == ((wrap64 ((wrap64 ((bt376.1.length : Int) + 1)) + (Int.tmod (wrap64 ((wrap64 ((Int.tmod a1 (wrap64 ((t361.length : Int) - (bt376.1.length : Int)))) + (t361.length : Int))) - (bt376.1.length : Int))) (wrap64 ((t361.length : Int) - (bt376.1.length : Int)))))) == (t361.length : Int))) = true then (if bt391.2 = 0 then (some ((bt391.1.length : Int) == (wrap64 ((l0.length : Int) - 1)))) else (some false)) else (some false)))) else (none)) else (none))))) else (none)) else (none)) = some r := by rw [if_neg (show ¬ (false = true) by decide)] at H; exact H
              clear H
              have H := H1
              clear H1
              obtain ⟨ji22, hji22⟩ : ∃ j_ : Int, (wrap64 ((l0.length : Int) - 1)) = j_ := ⟨_, rfl⟩
              replace H : (if 0 ≤ (ji22) then (if (ji22) ≤ (l0.length : Int) then ((index_Encode.f kj9 (l0.take ((ji22) : Int).toNat)).bind fun bt376 => (if (t361.length : Int) ≤ (bt376.1.length : Int) then (some false) else (if (wrap64 ((t361.length : Int) - (bt376.1.length : Int))) = 0 then (none) else (if 0 ≤ (wrap64 ((wrap64 ((bt376.1.length : Int) + 1)) + (Int.tmod (wrap64 ((wrap64 ((Int.tmod a1 (wrap64 ((t361.length : Int) - (bt376.1.length : Int)))) + (t361.length : Int))) - (bt376.1.length : Int))) (wrap64 ((t361.length : Int) - (bt376.1.length : Int)))))) then (if (wrap64 ((wrap64 ((bt376.1.length : Int) + 1)) + (Int.tmod (wrap64 ((wrap64 ((Int.tmod a1 (wrap64 ((t361.length : Int) - (bt376.1.length : Int)))) + (t361.length : Int))) - (bt376.1.length : Int))) (wrap64 ((t361.length : Int) - (bt376.1.length : Int)))))) ≤ (t361.length : Int) then ((index_List.f (t361.take ((wrap64 ((wrap64 ((bt376.1.length : Int) + 1)) + (Int.tmod (wrap64 ((wrap64 ((Int.tmod a1 (wrap64 ((t361.length : Int) - (bt376.1.length : Int)))) + (t361.length : Int))) - (bt376.1.length : Int))) (wrap64 ((t361.length : Int) - (bt376.1.length : Int)))))) : Int).toNat)).bind fun bt387 => ((index_List.f bt376.1).bind fun bt391 => (if ((bt387.2 == 0) == ((wrap64 ((wrap64 ((bt376.1.length : Int) + 1)) + (Int.tmod (wrap64 ((wrap64 ((Int.tmod a1 (wrap64 ((t361.length : Int) - (bt376.1.length : Int)))) + (t361.length : Int))) - (bt376.1.length : Int))) (wrap64 ((t361.length : Int) - (bt376.1.length : Int)))))) == (t361.length : Int))) = true then (if bt391.2 = 0 then (some ((bt391.1.length : Int) == (ji22))) else (some false)) else (some false)))) else (none)) else (none))))) else (none)) else (none)) = some r := by first | (rw [hji22] at H; exact H) | (simp only [hji22] at H ⊢; exact H)
              have hji22w : (IntKind.i64.wrap ((l0.length : Int) - 1)) = ji22 := (i64_w _).trans hji22
              by_cases c23 : 0 ≤ (ji22)
              · rw [if_pos c23] at H
                have c23b0 := eq_true c23
                have c23b1 : decide (0 ≤ (ji22)) = true := decide_eq_true c23
                clear c23
                by_cases c24 : (ji22) ≤ (l0.length : Int)
                · rw [if_pos c24] at H
                  have c24b0 := eq_true c24
                  have c24b1 : decide ((ji22) ≤ (l0.length : Int)) = true := decide_eq_true c24
                  clear c24
                  obtain ⟨y372, hy372⟩ : ∃ y_ : List (S42), y_ = (l0.take ((ji22) : Int).toNat) := ⟨_, rfl⟩
                  replace H : ((index_Encode.f kj9 y372).bind fun bt376 => (if (t361.length : Int) ≤ (bt376.1.length : Int) then (some false) else (if (wrap64 ((t361.length : Int) - (bt376.1.length : Int))) = 0 then (none) else (if 0 ≤ (wrap64 ((wrap64 ((bt376.1.length : Int) + 1)) + (Int.tmod (wrap64 ((wrap64 ((Int.tmod a1 (wrap64 ((t361.length : Int) - (bt376.1.length : Int)))) + (t361.length : Int))) - (bt376.1.length : Int))) (wrap64 ((t361.length : Int) - (bt376.1.length : Int)))))) then (if (wrap64 ((wrap64 ((bt376.1.length : Int) + 1)) + (Int.tmod (wrap64 ((wrap64 ((Int.tmod a1 (wrap64 ((t361.length : Int) - (bt376.1.length : Int)))) + (t361.length : Int))) - (bt376.1.length : Int))) (wrap64 ((t361.length : Int) - (bt376.1.length : Int)))))) ≤ (t361.length : Int) then ((index_List.f (t361.take ((wrap64 ((wrap64 ((bt376.1.length : Int) + 1)) + (Int.tmod (wrap64 ((wrap64 ((Int.tmod a1 (wrap64 ((t361.length : Int) - (bt376.1.length : Int)))) + (t361.length : Int))) - (bt376.1.length : Int))) (wrap64 ((t361.length : Int) - (bt376.1.length : Int)))))) : Int).toNat)).bind fun bt387 => ((index_List.f bt376.1).bind fun bt391 => (if ((bt387.2 == 0) == ((wrap64 ((wrap64 ((bt376.1.length : Int) + 1)) + (Int.tmod (wrap64 ((wrap64 ((Int.tmod a1 (wrap64 ((t361.length : Int) - (bt376.1.length : Int)))) + (t361.length : Int))) - (bt376.1.length : Int))) (wrap64 ((t361.length : Int) - (bt376.1.length : Int)))))) == (t361.length : Int))) = true then (if bt391.2 = 0 then (some ((bt391.1.length : Int) == (ji22))) else (some false)) else (some false)))) else (none)) else (none))))) = some r := by first | (rw [hy372]; with_reducible exact H) | (have H2_ := (Option.bind_some _ _).symm.trans H; rw [hy372]; with_reducible exact H2_) | (have H2_ := (Option.bind_some _ _).symm.trans H; with_reducible exact H2_) | with_reducible exact H | (rw [hy372]; exact H) | exact H
                  have Ny372 := Aside0.mk hy372
                  clear hy372
                  replace H := Option.bind_eq_some_iff.mp H
                  obtain ⟨⟨t376, t377, t378⟩, A250, H⟩ := H
                  replace H : (if (t361.length : Int) ≤ (t376.length : Int) then (some false) else (if (wrap64 ((t361.length : Int) - (t376.length : Int))) = 0 then (none) else (if 0 ≤ (wrap64 ((wrap64 ((t376.length : Int) + 1)) + (Int.tmod (wrap64 ((wrap64 ((Int.tmod a1 (wrap64 ((t361.length : Int) - (t376.length : Int)))) + (t361.length : Int))) - (t376.length : Int))) (wrap64 ((t361.length : Int) - (t376.length : Int)))))) then (if (wrap64 ((wrap64 ((t376.length : Int) + 1)) + (Int.tmod (wrap64 ((wrap64 ((Int.tmod a1 (wrap64 ((t361.length : Int) - (t376.length : Int)))) + (t361.length : Int))) - (t376.length : Int))) (wrap64 ((t361.length : Int) - (t376.length : Int)))))) ≤ (t361.length : Int) then ((index_List.f (t361.take ((wrap64 ((wrap64 ((t376.length : Int) + 1)) + (Int.tmod (wrap64 ((wrap64 ((Int.tmod a1 (wrap64 ((t361.length : Int) - (t376.length : Int)))) + (t361.length : Int))) - (t376.length : Int))) (wrap64 ((t361.length : Int) - (t376.length : Int)))))) : Int).toNat)).bind fun bt387 => ((index_List.f t376).bind fun bt391 => (if ((bt387.2 == 0) == ((wrap64 ((wrap64 ((t376.length : Int) + 1)) + (Int.tmod (wrap64 ((wrap64 ((Int.tmod a1 (wrap64 ((t361.length : Int) - (t376.length : Int)))) + (t361.length : Int))) - (t376.length : Int))) (wrap64 ((t361.length : Int) - (t376.length : Int)))))) == (t361.length : Int))) = true then (if bt391.2 = 0 then (some ((bt391.1.length : Int) == (ji22))) else (some false)) else (some false)))) else (none)) else (none)))) = some r := H
                  have A25 := Aside0.mk A250
                  clear A250
                  by_cases c26 : (t361.length : Int) ≤ (t376.length : Int)
                  · rw [if_pos c26] at H
                    have c26b0 : decide ((t361.length : Int) ≤ (t376.length : Int)) = true := decide_eq_true c26
                    have c26b1 : decide (t361.length ≤ t376.length) = true := decide_eq_true (Int.ofNat_le.mp c26)
                    clear c26
                    obtain rfl := Option.some.inj H
                    have q27 : ((ji22) : Int) ≤ ((l0.length : Int) : Int) := of_decide_eq_true (by first | (with_reducible assumption) | assumption)
                    obtain ⟨i027, hi027, _, hsz27, _⟩ := info_parts info42
                    have hroom27 : l0.length ≤ c0 := HC0.out
                    have hC27 : Kd.C k42 _ A0 l0.length l0 := HR0.out
                    have hcut27 := cut_to (P := Try.prog) 22 42 .i64 Try.underlying22 hi027 A0 l0.length c0 (ji22) (of_decide_eq_true (by first | (with_reducible assumption) | assumption)) q27 hroom27
                    have hr27 := Kd.C_take (m := ((ji22) : Int).toNat) hC27 (by omega)
                    have hy27 : y372.length = ((ji22) : Int).toNat := (by rw [Ny372.out, List.length_take]; omega)
                    rw [← Ny372.out] at hr27
                    rw [← hy27] at hcut27
                    have HR375 := Aside0.mk hr27
                    have HC375 := Aside0.mk (show y372.length ≤ c0 from by omega)
                    clear hr27 hC27 hroom27 hi027 hsz27
                    have KY27 := Aside0.mk hy27
                    clear hy27
                    replace q27 := eq_true q27
                    go_wp2_with (first | ((with_reducible refine gate_callee (f := 9) rfl ?_); refine goesL_ (some 50) rfl rfl Try.func9 (by kernel_rfl) rfl #[.slice A0 y372.length c0] rfl (by (try simp only [List.map_toArray, List.map_cons, List.map_nil]); first | done | rfl | (simp only [List.length_drop, List.length_take]; rfl)) ?_; (with_reducible refine (index_Encode.calls kj9 _ _ y372 t376 t377 t378 _ ?side1 ?side2 A25.out).mono ?_); (case side1 => repeat (first | exact (Kd.C_below HR375.out HB.out) | (with_reducible refine Kd.C_alloc ?_ _) | (with_reducible refine Kd.C_drewN ?_ _) | (with_reducible refine Kd.C_drew ?_))); (case side2 => exact HC375.out); rintro e w28 ⟨v379, v381, rfl, ho0, ho1, hb⟩; refine ⟨_, rfl, ?_⟩; have n0_ := Aside0.mk (Kd.R_mono (Kd.R_told (Kd.R_told (Kd.R_old (by (with_reducible repeat (first | apply Kd.R_alloc | apply Kd.R_drewN | apply Kd.R_drew)); exact HO_5.out) hb) (Kd.R_base ho0)) (Kd.R_base ho1)) (fun _ h_ => h_.1)); have n1_ := Aside0.mk (Kd.R_lower (Kd.R_new' ho0 (Kd.R_lt (by (with_reducible repeat (first | apply Kd.R_alloc | apply Kd.R_drewN | apply Kd.R_drew)); exact HO_5.out))) (below_size (by repeat (first | (with_reducible first | exact HB.out | apply below_alloc | apply pw_below_drewN | apply below_drew1) | exact HB.out)))); have n2_ := Aside0.mk (Kd.R_lower (Kd.R_new' ho1 (Kd.R_lt (by (with_reducible repeat (first | apply Kd.R_alloc | apply Kd.R_drewN | apply Kd.R_drew)); exact HO_5.out))) (below_size (by repeat (first | (with_reducible first | exact HB.out | apply below_alloc | apply pw_below_drewN | apply below_drew1) | exact HB.out)))); have n3_ := Aside0.mk (below_step (by repeat (first | (with_reducible first | exact HB.out | apply below_alloc | apply pw_below_drewN | apply below_drew1) | exact HB.out)) hb); clear HO_5; clear HB; have HO_5 := n0_; have HO380 := n1_; have HO382 := n2_; have HB := n3_; clear n0_ n1_ n2_ n3_; (try clear hb); (try clear hb2); (try clear hk); (try clear hi); (try clear ho0); (try clear ho1); obtain ⟨Ao29, co29, eo29⟩ := Kd.R_slice HO_5.out; subst eo29; obtain ⟨Ao30, co30, eo30⟩ := Kd.R_slice HO380.out; subst eo30))
                    go_ret
                    exact ⟨by first | rfl | (simp [errW_none, errW_some] <;> rfl) | (simp only [← hji22]; first | rfl | (simp [errW_none, errW_some] <;> rfl)) | (simp [*, errW_none, errW_some] <;> rfl), by repeat (first | (with_reducible first | exact HB.out | apply below_alloc | apply pw_below_drewN | apply below_drew1) | exact HB.out)⟩
                  · rw [if_neg c26] at H
                    have c26b0 : decide ((t361.length : Int) ≤ (t376.length : Int)) = false := decide_eq_false c26
                    have c26b1 : decide (t361.length ≤ t376.length) = false := decide_eq_false (fun h => c26 (Int.ofNat_le.mpr h))
                    clear c26
                    by_cases c31 : (wrap64 ((t361.length : Int) - (t376.length : Int))) = 0
                    · rw [if_pos c31] at H
                      exact absurd H (by simp)
                    · rw [if_neg c31] at H
                      have c31b0 : ((wrap64 ((t361.length : Int) - (t376.length : Int))) == 0) = false := beq_eq_false_iff_ne.mpr c31
                      have c31b1 : ((wrap64 ((t361.length : Int) - (t376.length : Int))) != 0) = true := bne_iff_ne.mpr c31
                      obtain ⟨ji32, hji32⟩ : ∃ j_ : Int, (wrap64 ((wrap64 ((t376.length : Int) + 1)) + (Int.tmod (wrap64 ((wrap64 ((Int.tmod a1 (wrap64 ((t361.length : Int) - (t376.length : Int)))) + (t361.length : Int))) - (t376.length : Int))) (wrap64 ((t361.length : Int) - (t376.length : Int)))))) = j_ := ⟨_, rfl⟩
                      replace H : (if 0 ≤ (ji32) then (if (ji32) ≤ (t361.length : Int) then ((index_List.f (t361.take ((ji32) : Int).toNat)).bind fun bt387 => ((index_List.f t376).bind fun bt391 => (if ((bt387.2 == 0) == ((ji32) == (t361.length : Int))) = true then (if bt391.2 = 0 then (some ((bt391.1.length : Int) == (ji22))) else (some false)) else (some false)))) else (none)) else (none)) = some r := by first | (rw [hji32] at H; exact H) | (simp only [hji32] at H ⊢; exact H)
                      (try rw [hji32] at A25)
                      have hji32w : (IntKind.i64.wrap ((wrap64 ((t376.length : Int) + 1)) + (Int.tmod (wrap64 ((wrap64 ((Int.tmod a1 (wrap64 ((t361.length : Int) - (t376.length : Int)))) + (t361.length : Int))) - (t376.length : Int))) (wrap64 ((t361.length : Int) - (t376.length : Int)))))) = ji32 := (i64_w _).trans hji32
                      by_cases c33 : 0 ≤ (ji32)
                      · rw [if_pos c33] at H
                        have c33b0 := eq_true c33
                        have c33b1 : decide (0 ≤ (ji32)) = true := decide_eq_true c33
                        clear c33
                        by_cases c34 : (ji32) ≤ (t361.length : Int)
                        · rw [if_pos c34] at H
                          have c34b0 := eq_true c34
                          have c34b1 : decide ((ji32) ≤ (t361.length : Int)) = true := decide_eq_true c34
                          clear c34
                          obtain ⟨y383, hy383⟩ : ∃ y_ : List Int, y_ = (t361.take ((ji32) : Int).toNat) := ⟨_, rfl⟩
                          replace H : ((index_List.f y383).bind fun bt387 => ((index_List.f t376).bind fun bt391 => (if ((bt387.2 == 0) == ((ji32) == (t361.length : Int))) = true then (if bt391.2 = 0 then (some ((bt391.1.length : Int) == (ji22))) else (some false)) else (some false)))) = some r := by first | (rw [hy383]; with_reducible exact H) | (have H2_ := (Option.bind_some _ _).symm.trans H; rw [hy383]; with_reducible exact H2_) | (have H2_ := (Option.bind_some _ _).symm.trans H; with_reducible exact H2_) | with_reducible exact H | (rw [hy383]; exact H) | exact H
                          have Ny383 := Aside0.mk hy383
                          clear hy383
                          replace H := Option.bind_eq_some_iff.mp H
                          obtain ⟨⟨t387, t388⟩, A350, H⟩ := H
                          replace H : ((index_List.f t376).bind fun bt391 => (if ((t388 == 0) == ((ji32) == (t361.length : Int))) = true then (if bt391.2 = 0 then (some ((bt391.1.length : Int) == (ji22))) else (some false)) else (some false))) = some r := H
                          have A35 := Aside0.mk A350
                          clear A350
                          replace H := Option.bind_eq_some_iff.mp H
                          obtain ⟨⟨t391, t392⟩, A360, H⟩ := H
                          replace H : (if ((t388 == 0) == ((ji32) == (t361.length : Int))) = true then (if t392 = 0 then (some ((t391.length : Int) == (ji22))) else (some false)) else (some false)) = some r := H
                          have A36 := Aside0.mk A360
                          clear A360
                          by_cases c37 : ((t388 == 0) == ((ji32) == (t361.length : Int))) = true
                          · rw [if_pos c37] at H
                            have c37b0 : ((t388 == 0) == ((ji32) == (t361.length : Int))) = true := c37
                            (try (have c37b1 : decide ((t388 == 0) = ((ji32) == (t361.length : Int))) = true := by simpa using c37))
                            (try (have c37b2 : ((t388 == 0) == ((ji32) == (t361.length : Int))) = true := by simpa using c37))
                            clear c37
                            by_cases c38 : t392 = 0
                            · rw [if_pos c38] at H
                              have c38b0 : (t392 == 0) = true := beq_iff_eq.mpr c38
                              have c38b1 : (t392 != 0) = false := bne_eq_false_iff_eq.mpr c38
                              clear c38
                              obtain rfl := Option.some.inj H
                              have q39 : ((ji22) : Int) ≤ ((l0.length : Int) : Int) := of_decide_eq_true (by first | (with_reducible assumption) | assumption)
                              obtain ⟨i039, hi039, _, hsz39, _⟩ := info_parts info42
                              have hroom39 : l0.length ≤ c0 := HC0.out
                              have hC39 : Kd.C k42 _ A0 l0.length l0 := HR0.out
                              have hcut39 := cut_to (P := Try.prog) 22 42 .i64 Try.underlying22 hi039 A0 l0.length c0 (ji22) (of_decide_eq_true (by first | (with_reducible assumption) | assumption)) q39 hroom39
                              have hr39 := Kd.C_take (m := ((ji22) : Int).toNat) hC39 (by omega)
                              have hy39 : y372.length = ((ji22) : Int).toNat := (by rw [Ny372.out, List.length_take]; omega)
                              rw [← Ny372.out] at hr39
                              rw [← hy39] at hcut39
                              have HR375 := Aside0.mk hr39
                              have HC375 := Aside0.mk (show y372.length ≤ c0 from by omega)
                              clear hr39 hC39 hroom39 hi039 hsz39
                              have KY39 := Aside0.mk hy39
                              clear hy39
                              replace q39 := eq_true q39
                              go_wp2_with (first | ((with_reducible refine gate_callee (f := 9) rfl ?_); refine goesL_ (some 50) rfl rfl Try.func9 (by kernel_rfl) rfl #[.slice A0 y372.length c0] rfl (by (try simp only [List.map_toArray, List.map_cons, List.map_nil]); first | done | rfl | (simp only [List.length_drop, List.length_take]; rfl)) ?_; (with_reducible refine (index_Encode.calls kj9 _ _ y372 t376 t377 t378 _ ?side1 ?side2 A25.out).mono ?_); (case side1 => repeat (first | exact (Kd.C_below HR375.out HB.out) | (with_reducible refine Kd.C_alloc ?_ _) | (with_reducible refine Kd.C_drewN ?_ _) | (with_reducible refine Kd.C_drew ?_))); (case side2 => exact HC375.out); rintro e w40 ⟨v379, v381, rfl, ho0, ho1, hb⟩; refine ⟨_, rfl, ?_⟩; have n0_ := Aside0.mk (Kd.R_mono (Kd.R_told (Kd.R_told (Kd.R_old (by (with_reducible repeat (first | apply Kd.R_alloc | apply Kd.R_drewN | apply Kd.R_drew)); exact HO_5.out) hb) (Kd.R_base ho0)) (Kd.R_base ho1)) (fun _ h_ => h_.1)); have n1_ := Aside0.mk (Kd.R_lower (Kd.R_new' ho0 (Kd.R_lt (by (with_reducible repeat (first | apply Kd.R_alloc | apply Kd.R_drewN | apply Kd.R_drew)); exact HO_5.out))) (below_size (by repeat (first | (with_reducible first | exact HB.out | apply below_alloc | apply pw_below_drewN | apply below_drew1) | exact HB.out)))); have n2_ := Aside0.mk (Kd.R_lower (Kd.R_new' ho1 (Kd.R_lt (by (with_reducible repeat (first | apply Kd.R_alloc | apply Kd.R_drewN | apply Kd.R_drew)); exact HO_5.out))) (below_size (by repeat (first | (with_reducible first | exact HB.out | apply below_alloc | apply pw_below_drewN | apply below_drew1) | exact HB.out)))); have n3_ := Aside0.mk (below_step (by repeat (first | (with_reducible first | exact HB.out | apply below_alloc | apply pw_below_drewN | apply below_drew1) | exact HB.out)) hb); clear HO_5; clear HB; have HO_5 := n0_; have HO380 := n1_; have HO382 := n2_; have HB := n3_; clear n0_ n1_ n2_ n3_; (try clear hb); (try clear hb2); (try clear hk); (try clear hi); (try clear ho0); (try clear ho1); obtain ⟨Ao41, co41, eo41⟩ := Kd.R_slice HO_5.out; subst eo41; obtain ⟨Ao42, co42, eo42⟩ := Kd.R_slice HO380.out; subst eo42; have q43 : ((ji32) : Int) ≤ ((t361.length : Int) : Int) := of_decide_eq_true (by first | (with_reducible assumption) | assumption); obtain ⟨i043, hi043, _, hsz43, _⟩ := info_parts info5; have hroom43 : t361.length ≤ co41 := (Kd.R_reads' HO_5.out).2.1; have hC43 : Kd.C (Kd.int .u8) _ Ao41 t361.length t361 := (Kd.R_reads' HO_5.out).2.2; have hcut43 := cut_to (P := Try.prog) 24 5 .i64 Try.underlying24 hi043 Ao41 t361.length co41 (ji32) (of_decide_eq_true (by first | (with_reducible assumption) | assumption)) q43 hroom43; have hr43 := Kd.C_take (m := ((ji32) : Int).toNat) hC43 (by omega); have hy43 : y383.length = ((ji32) : Int).toNat := (by rw [Ny383.out, List.length_take]; omega); rw [← Ny383.out] at hr43; rw [← hy43] at hcut43; have HR386 := Aside0.mk hr43; have HC386 := Aside0.mk (show y383.length ≤ co41 from by omega); clear hr43 hC43 hroom43 hi043 hsz43; have KY43 := Aside0.mk hy43; clear hy43; have KL43 := Aside0.mk (show ((ji32) : Int).toNat ≤ t361.length from by omega); replace q43 := eq_true q43) | ((with_reducible refine gate_callee (f := 15) rfl ?_); refine goesL_ (some 86) rfl rfl Try.func15 (by kernel_rfl) rfl #[.slice Ao41 y383.length co41] rfl (by (try simp only [List.map_toArray, List.map_cons, List.map_nil]); first | done | rfl | (simp only [List.length_drop, List.length_take]; rfl)) ?_; (with_reducible refine (index_List.calls _ _ y383 t387 t388 _ ?side1 ?side2 A35.out).mono ?_); (case side1 => repeat (first | exact (by repeat (first | (with_reducible exact HR386.out) | (with_reducible refine Kd.C_alloc ?_ _) | (with_reducible refine Kd.C_drewN ?_ _) | (with_reducible refine Kd.C_drew ?_) | exact HR386.out)) | (with_reducible refine Kd.C_alloc ?_ _) | (with_reducible refine Kd.C_drewN ?_ _) | (with_reducible refine Kd.C_drew ?_))); (case side2 => exact HC386.out); rintro e w44 ⟨v389, rfl, ho0, hb⟩; refine ⟨_, rfl, ?_⟩; have n0_ := Aside0.mk (Kd.R_below (by (with_reducible repeat (first | apply Kd.R_alloc | apply Kd.R_drewN | apply Kd.R_drew)); exact HO_5.out) hb); have n1_ := Aside0.mk (Kd.R_below (by (with_reducible repeat (first | apply Kd.R_alloc | apply Kd.R_drewN | apply Kd.R_drew)); exact HO380.out) hb); have n2_ := Aside0.mk (Kd.R_below (by (with_reducible repeat (first | apply Kd.R_alloc | apply Kd.R_drewN | apply Kd.R_drew)); exact HO382.out) hb); have n3_ := Aside0.mk (Kd.R_lower ho0 (below_size (by repeat (first | (with_reducible first | exact HB.out | apply below_alloc | apply pw_below_drewN | apply below_drew1) | exact HB.out)))); have n4_ := Aside0.mk (Kd.C_below (by repeat (first | (with_reducible exact HR386.out) | (with_reducible refine Kd.C_alloc ?_ _) | (with_reducible refine Kd.C_drewN ?_ _) | (with_reducible refine Kd.C_drew ?_) | exact HR386.out)) hb); have n5_ := Aside0.mk (below_step (by repeat (first | (with_reducible first | exact HB.out | apply below_alloc | apply pw_below_drewN | apply below_drew1) | exact HB.out)) hb); clear HO_5; clear HO380; clear HO382; clear HR386; clear HB; have HO_5 := n0_; have HO380 := n1_; have HO382 := n2_; have HO390 := n3_; have HR386 := n4_; have HB := n5_; clear n0_ n1_ n2_ n3_ n4_ n5_; (try clear hb); (try clear hb2); (try clear hk); (try clear hi); (try clear ho0)) | ((with_reducible refine gate_callee (f := 15) rfl ?_); refine goesL_ (some 91) rfl rfl Try.func15 (by kernel_rfl) rfl #[.slice Ao42 t376.length co42] rfl (by (try simp only [List.map_toArray, List.map_cons, List.map_nil]); first | done | rfl | (simp only [List.length_drop, List.length_take]; rfl)) ?_; (with_reducible refine (index_List.calls _ _ t376 t391 t392 _ ?side1 ?side2 A36.out).mono ?_); (case side1 => repeat (first | exact (Kd.R_reads' HO380.out).2.2 | (with_reducible refine Kd.C_alloc ?_ _) | (with_reducible refine Kd.C_drewN ?_ _) | (with_reducible refine Kd.C_drew ?_))); (case side2 => exact (Kd.R_reads' HO380.out).2.1); rintro e w45 ⟨v393, rfl, ho0, hb⟩; refine ⟨_, rfl, ?_⟩; have n0_ := Aside0.mk (Kd.R_below (by (with_reducible repeat (first | apply Kd.R_alloc | apply Kd.R_drewN | apply Kd.R_drew)); exact HO_5.out) hb); have n1_ := Aside0.mk (Kd.R_below (by (with_reducible repeat (first | apply Kd.R_alloc | apply Kd.R_drewN | apply Kd.R_drew)); exact HO380.out) hb); have n2_ := Aside0.mk (Kd.R_below (by (with_reducible repeat (first | apply Kd.R_alloc | apply Kd.R_drewN | apply Kd.R_drew)); exact HO382.out) hb); have n3_ := Aside0.mk (Kd.R_elder' (by (with_reducible repeat (first | apply Kd.R_alloc | apply Kd.R_drewN | apply Kd.R_drew)); exact HO390.out) (Kd.R_base ho0) hb); have n4_ := Aside0.mk (Kd.R_lower (Kd.R_new' ho0 (Kd.R_lt (by (with_reducible repeat (first | apply Kd.R_alloc | apply Kd.R_drewN | apply Kd.R_drew)); exact HO390.out))) (below_size (by repeat (first | (with_reducible first | exact HB.out | apply below_alloc | apply pw_below_drewN | apply below_drew1) | exact HB.out)))); have n5_ := Aside0.mk (Kd.C_below (by repeat (first | (with_reducible exact HR386.out) | (with_reducible refine Kd.C_alloc ?_ _) | (with_reducible refine Kd.C_drewN ?_ _) | (with_reducible refine Kd.C_drew ?_) | exact HR386.out)) hb); have n6_ := Aside0.mk (below_step (by repeat (first | (with_reducible first | exact HB.out | apply below_alloc | apply pw_below_drewN | apply below_drew1) | exact HB.out)) hb); clear HO_5; clear HO380; clear HO382; clear HO390; clear HR386; clear HB; have HO_5 := n0_; have HO380 := n1_; have HO382 := n2_; have HO390 := n3_; have HO394 := n4_; have HR386 := n5_; have HB := n6_; clear n0_ n1_ n2_ n3_ n4_ n5_ n6_; (try clear hb); (try clear hb2); (try clear hk); (try clear hi); (try clear ho0); obtain ⟨Ao46, co46, eo46⟩ := Kd.R_slice HO394.out; subst eo46))
                              go_ret
                              exact ⟨by first | rfl | (simp [errW_none, errW_some] <;> rfl) | (simp only [← hji22, ← hji32]; first | rfl | (simp [errW_none, errW_some] <;> rfl)) | (simp [*, errW_none, errW_some] <;> rfl), by repeat (first | (with_reducible first | exact HB.out | apply below_alloc | apply pw_below_drewN | apply below_drew1) | exact HB.out)⟩
                            · rw [if_neg c38] at H
                              have c38b0 : (t392 == 0) = false := beq_eq_false_iff_ne.mpr c38
                              have c38b1 : (t392 != 0) = true := bne_iff_ne.mpr c38
                              obtain rfl := Option.some.inj H
                              have q47 : ((ji22) : Int) ≤ ((l0.length : Int) : Int) := of_decide_eq_true (by first | (with_reducible assumption) | assumption)
                              obtain ⟨i047, hi047, _, hsz47, _⟩ := info_parts info42
                              have hroom47 : l0.length ≤ c0 := HC0.out
                              have hC47 : Kd.C k42 _ A0 l0.length l0 := HR0.out
                              have hcut47 := cut_to (P := Try.prog) 22 42 .i64 Try.underlying22 hi047 A0 l0.length c0 (ji22) (of_decide_eq_true (by first | (with_reducible assumption) | assumption)) q47 hroom47
                              have hr47 := Kd.C_take (m := ((ji22) : Int).toNat) hC47 (by omega)
                              have hy47 : y372.length = ((ji22) : Int).toNat := (by rw [Ny372.out, List.length_take]; omega)
                              rw [← Ny372.out] at hr47
                              rw [← hy47] at hcut47
                              have HR375 := Aside0.mk hr47
                              have HC375 := Aside0.mk (show y372.length ≤ c0 from by omega)
                              clear hr47 hC47 hroom47 hi047 hsz47
                              have KY47 := Aside0.mk hy47
                              clear hy47
                              replace q47 := eq_true q47
                              go_wp2_with (first | ((with_reducible refine gate_callee (f := 9) rfl ?_); refine goesL_ (some 50) rfl rfl Try.func9 (by kernel_rfl) rfl #[.slice A0 y372.length c0] rfl (by (try simp only [List.map_toArray, List.map_cons, List.map_nil]); first | done | rfl | (simp only [List.length_drop, List.length_take]; rfl)) ?_; (with_reducible refine (index_Encode.calls kj9 _ _ y372 t376 t377 t378 _ ?side1 ?side2 A25.out).mono ?_); (case side1 => repeat (first | exact (Kd.C_below HR375.out HB.out) | (with_reducible refine Kd.C_alloc ?_ _) | (with_reducible refine Kd.C_drewN ?_ _) | (with_reducible refine Kd.C_drew ?_))); (case side2 => exact HC375.out); rintro e w48 ⟨v379, v381, rfl, ho0, ho1, hb⟩; refine ⟨_, rfl, ?_⟩; have n0_ := Aside0.mk (Kd.R_mono (Kd.R_told (Kd.R_told (Kd.R_old (by (with_reducible repeat (first | apply Kd.R_alloc | apply Kd.R_drewN | apply Kd.R_drew)); exact HO_5.out) hb) (Kd.R_base ho0)) (Kd.R_base ho1)) (fun _ h_ => h_.1)); have n1_ := Aside0.mk (Kd.R_lower (Kd.R_new' ho0 (Kd.R_lt (by (with_reducible repeat (first | apply Kd.R_alloc | apply Kd.R_drewN | apply Kd.R_drew)); exact HO_5.out))) (below_size (by repeat (first | (with_reducible first | exact HB.out | apply below_alloc | apply pw_below_drewN | apply below_drew1) | exact HB.out)))); have n2_ := Aside0.mk (Kd.R_lower (Kd.R_new' ho1 (Kd.R_lt (by (with_reducible repeat (first | apply Kd.R_alloc | apply Kd.R_drewN | apply Kd.R_drew)); exact HO_5.out))) (below_size (by repeat (first | (with_reducible first | exact HB.out | apply below_alloc | apply pw_below_drewN | apply below_drew1) | exact HB.out)))); have n3_ := Aside0.mk (below_step (by repeat (first | (with_reducible first | exact HB.out | apply below_alloc | apply pw_below_drewN | apply below_drew1) | exact HB.out)) hb); clear HO_5; clear HB; have HO_5 := n0_; have HO380 := n1_; have HO382 := n2_; have HB := n3_; clear n0_ n1_ n2_ n3_; (try clear hb); (try clear hb2); (try clear hk); (try clear hi); (try clear ho0); (try clear ho1); obtain ⟨Ao49, co49, eo49⟩ := Kd.R_slice HO_5.out; subst eo49; obtain ⟨Ao50, co50, eo50⟩ := Kd.R_slice HO380.out; subst eo50; have q51 : ((ji32) : Int) ≤ ((t361.length : Int) : Int) := of_decide_eq_true (by first | (with_reducible assumption) | assumption); obtain ⟨i051, hi051, _, hsz51, _⟩ := info_parts info5; have hroom51 : t361.length ≤ co49 := (Kd.R_reads' HO_5.out).2.1; have hC51 : Kd.C (Kd.int .u8) _ Ao49 t361.length t361 := (Kd.R_reads' HO_5.out).2.2; have hcut51 := cut_to (P := Try.prog) 24 5 .i64 Try.underlying24 hi051 Ao49 t361.length co49 (ji32) (of_decide_eq_true (by first | (with_reducible assumption) | assumption)) q51 hroom51; have hr51 := Kd.C_take (m := ((ji32) : Int).toNat) hC51 (by omega); have hy51 : y383.length = ((ji32) : Int).toNat := (by rw [Ny383.out, List.length_take]; omega); rw [← Ny383.out] at hr51; rw [← hy51] at hcut51; have HR386 := Aside0.mk hr51; have HC386 := Aside0.mk (show y383.length ≤ co49 from by omega); clear hr51 hC51 hroom51 hi051 hsz51; have KY51 := Aside0.mk hy51; clear hy51; have KL51 := Aside0.mk (show ((ji32) : Int).toNat ≤ t361.length from by omega); replace q51 := eq_true q51) | ((with_reducible refine gate_callee (f := 15) rfl ?_); refine goesL_ (some 86) rfl rfl Try.func15 (by kernel_rfl) rfl #[.slice Ao49 y383.length co49] rfl (by (try simp only [List.map_toArray, List.map_cons, List.map_nil]); first | done | rfl | (simp only [List.length_drop, List.length_take]; rfl)) ?_; (with_reducible refine (index_List.calls _ _ y383 t387 t388 _ ?side1 ?side2 A35.out).mono ?_); (case side1 => repeat (first | exact (by repeat (first | (with_reducible exact HR386.out) | (with_reducible refine Kd.C_alloc ?_ _) | (with_reducible refine Kd.C_drewN ?_ _) | (with_reducible refine Kd.C_drew ?_) | exact HR386.out)) | (with_reducible refine Kd.C_alloc ?_ _) | (with_reducible refine Kd.C_drewN ?_ _) | (with_reducible refine Kd.C_drew ?_))); (case side2 => exact HC386.out); rintro e w52 ⟨v389, rfl, ho0, hb⟩; refine ⟨_, rfl, ?_⟩; have n0_ := Aside0.mk (Kd.R_below (by (with_reducible repeat (first | apply Kd.R_alloc | apply Kd.R_drewN | apply Kd.R_drew)); exact HO_5.out) hb); have n1_ := Aside0.mk (Kd.R_below (by (with_reducible repeat (first | apply Kd.R_alloc | apply Kd.R_drewN | apply Kd.R_drew)); exact HO380.out) hb); have n2_ := Aside0.mk (Kd.R_below (by (with_reducible repeat (first | apply Kd.R_alloc | apply Kd.R_drewN | apply Kd.R_drew)); exact HO382.out) hb); have n3_ := Aside0.mk (Kd.R_lower ho0 (below_size (by repeat (first | (with_reducible first | exact HB.out | apply below_alloc | apply pw_below_drewN | apply below_drew1) | exact HB.out)))); have n4_ := Aside0.mk (Kd.C_below (by repeat (first | (with_reducible exact HR386.out) | (with_reducible refine Kd.C_alloc ?_ _) | (with_reducible refine Kd.C_drewN ?_ _) | (with_reducible refine Kd.C_drew ?_) | exact HR386.out)) hb); have n5_ := Aside0.mk (below_step (by repeat (first | (with_reducible first | exact HB.out | apply below_alloc | apply pw_below_drewN | apply below_drew1) | exact HB.out)) hb); clear HO_5; clear HO380; clear HO382; clear HR386; clear HB; have HO_5 := n0_; have HO380 := n1_; have HO382 := n2_; have HO390 := n3_; have HR386 := n4_; have HB := n5_; clear n0_ n1_ n2_ n3_ n4_ n5_; (try clear hb); (try clear hb2); (try clear hk); (try clear hi); (try clear ho0)) | ((with_reducible refine gate_callee (f := 15) rfl ?_); refine goesL_ (some 91) rfl rfl Try.func15 (by kernel_rfl) rfl #[.slice Ao50 t376.length co50] rfl (by (try simp only [List.map_toArray, List.map_cons, List.map_nil]); first | done | rfl | (simp only [List.length_drop, List.length_take]; rfl)) ?_; (with_reducible refine (index_List.calls _ _ t376 t391 t392 _ ?side1 ?side2 A36.out).mono ?_); (case side1 => repeat (first | exact (Kd.R_reads' HO380.out).2.2 | (with_reducible refine Kd.C_alloc ?_ _) | (with_reducible refine Kd.C_drewN ?_ _) | (with_reducible refine Kd.C_drew ?_))); (case side2 => exact (Kd.R_reads' HO380.out).2.1); rintro e w53 ⟨v393, rfl, ho0, hb⟩; refine ⟨_, rfl, ?_⟩; have n0_ := Aside0.mk (Kd.R_below (by (with_reducible repeat (first | apply Kd.R_alloc | apply Kd.R_drewN | apply Kd.R_drew)); exact HO_5.out) hb); have n1_ := Aside0.mk (Kd.R_below (by (with_reducible repeat (first | apply Kd.R_alloc | apply Kd.R_drewN | apply Kd.R_drew)); exact HO380.out) hb); have n2_ := Aside0.mk (Kd.R_below (by (with_reducible repeat (first | apply Kd.R_alloc | apply Kd.R_drewN | apply Kd.R_drew)); exact HO382.out) hb); have n3_ := Aside0.mk (Kd.R_elder' (by (with_reducible repeat (first | apply Kd.R_alloc | apply Kd.R_drewN | apply Kd.R_drew)); exact HO390.out) (Kd.R_base ho0) hb); have n4_ := Aside0.mk (Kd.R_lower (Kd.R_new' ho0 (Kd.R_lt (by (with_reducible repeat (first | apply Kd.R_alloc | apply Kd.R_drewN | apply Kd.R_drew)); exact HO390.out))) (below_size (by repeat (first | (with_reducible first | exact HB.out | apply below_alloc | apply pw_below_drewN | apply below_drew1) | exact HB.out)))); have n5_ := Aside0.mk (Kd.C_below (by repeat (first | (with_reducible exact HR386.out) | (with_reducible refine Kd.C_alloc ?_ _) | (with_reducible refine Kd.C_drewN ?_ _) | (with_reducible refine Kd.C_drew ?_) | exact HR386.out)) hb); have n6_ := Aside0.mk (below_step (by repeat (first | (with_reducible first | exact HB.out | apply below_alloc | apply pw_below_drewN | apply below_drew1) | exact HB.out)) hb); clear HO_5; clear HO380; clear HO382; clear HO390; clear HR386; clear HB; have HO_5 := n0_; have HO380 := n1_; have HO382 := n2_; have HO390 := n3_; have HO394 := n4_; have HR386 := n5_; have HB := n6_; clear n0_ n1_ n2_ n3_ n4_ n5_ n6_; (try clear hb); (try clear hb2); (try clear hk); (try clear hi); (try clear ho0)))
                              go_ret
                              exact ⟨by first | rfl | (simp [errW_none, errW_some] <;> rfl) | (simp only [← hji22, ← hji32]; first | rfl | (simp [errW_none, errW_some] <;> rfl)) | (simp [*, errW_none, errW_some] <;> rfl), by repeat (first | (with_reducible first | exact HB.out | apply below_alloc | apply pw_below_drewN | apply below_drew1) | exact HB.out)⟩
                          · rw [if_neg c37] at H
                            have c37b0 : ((t388 == 0) == ((ji32) == (t361.length : Int))) = false := by simpa using c37
                            (try (have c37b1 : decide ((t388 == 0) = ((ji32) == (t361.length : Int))) = false := by simpa using c37))
                            (try (have c37b2 : ((t388 == 0) == ((ji32) == (t361.length : Int))) = false := by simpa using c37))
                            (try (have c37b3 : ¬ ((t388 == 0) = ((ji32) == (t361.length : Int))) := by simpa using c37))
                            clear c37
                            obtain rfl := Option.some.inj H
                            have q54 : ((ji22) : Int) ≤ ((l0.length : Int) : Int) := of_decide_eq_true (by first | (with_reducible assumption) | assumption)
                            obtain ⟨i054, hi054, _, hsz54, _⟩ := info_parts info42
                            have hroom54 : l0.length ≤ c0 := HC0.out
                            have hC54 : Kd.C k42 _ A0 l0.length l0 := HR0.out
                            have hcut54 := cut_to (P := Try.prog) 22 42 .i64 Try.underlying22 hi054 A0 l0.length c0 (ji22) (of_decide_eq_true (by first | (with_reducible assumption) | assumption)) q54 hroom54
                            have hr54 := Kd.C_take (m := ((ji22) : Int).toNat) hC54 (by omega)
                            have hy54 : y372.length = ((ji22) : Int).toNat := (by rw [Ny372.out, List.length_take]; omega)
                            rw [← Ny372.out] at hr54
                            rw [← hy54] at hcut54
                            have HR375 := Aside0.mk hr54
                            have HC375 := Aside0.mk (show y372.length ≤ c0 from by omega)
                            clear hr54 hC54 hroom54 hi054 hsz54
                            have KY54 := Aside0.mk hy54
                            clear hy54
                            replace q54 := eq_true q54
                            go_wp2_with (first | ((with_reducible refine gate_callee (f := 9) rfl ?_); refine goesL_ (some 50) rfl rfl Try.func9 (by kernel_rfl) rfl #[.slice A0 y372.length c0] rfl (by (try simp only [List.map_toArray, List.map_cons, List.map_nil]); first | done | rfl | (simp only [List.length_drop, List.length_take]; rfl)) ?_; (with_reducible refine (index_Encode.calls kj9 _ _ y372 t376 t377 t378 _ ?side1 ?side2 A25.out).mono ?_); (case side1 => repeat (first | exact (Kd.C_below HR375.out HB.out) | (with_reducible refine Kd.C_alloc ?_ _) | (with_reducible refine Kd.C_drewN ?_ _) | (with_reducible refine Kd.C_drew ?_))); (case side2 => exact HC375.out); rintro e w55 ⟨v379, v381, rfl, ho0, ho1, hb⟩; refine ⟨_, rfl, ?_⟩; have n0_ := Aside0.mk (Kd.R_mono (Kd.R_told (Kd.R_told (Kd.R_old (by (with_reducible repeat (first | apply Kd.R_alloc | apply Kd.R_drewN | apply Kd.R_drew)); exact HO_5.out) hb) (Kd.R_base ho0)) (Kd.R_base ho1)) (fun _ h_ => h_.1)); have n1_ := Aside0.mk (Kd.R_lower (Kd.R_new' ho0 (Kd.R_lt (by (with_reducible repeat (first | apply Kd.R_alloc | apply Kd.R_drewN | apply Kd.R_drew)); exact HO_5.out))) (below_size (by repeat (first | (with_reducible first | exact HB.out | apply below_alloc | apply pw_below_drewN | apply below_drew1) | exact HB.out)))); have n2_ := Aside0.mk (Kd.R_lower (Kd.R_new' ho1 (Kd.R_lt (by (with_reducible repeat (first | apply Kd.R_alloc | apply Kd.R_drewN | apply Kd.R_drew)); exact HO_5.out))) (below_size (by repeat (first | (with_reducible first | exact HB.out | apply below_alloc | apply pw_below_drewN | apply below_drew1) | exact HB.out)))); have n3_ := Aside0.mk (below_step (by repeat (first | (with_reducible first | exact HB.out | apply below_alloc | apply pw_below_drewN | apply below_drew1) | exact HB.out)) hb); clear HO_5; clear HB; have HO_5 := n0_; have HO380 := n1_; have HO382 := n2_; have HB := n3_; clear n0_ n1_ n2_ n3_; (try clear hb); (try clear hb2); (try clear hk); (try clear hi); (try clear ho0); (try clear ho1); obtain ⟨Ao56, co56, eo56⟩ := Kd.R_slice HO_5.out; subst eo56; obtain ⟨Ao57, co57, eo57⟩ := Kd.R_slice HO380.out; subst eo57; have q58 : ((ji32) : Int) ≤ ((t361.length : Int) : Int) := of_decide_eq_true (by first | (with_reducible assumption) | assumption); obtain ⟨i058, hi058, _, hsz58, _⟩ := info_parts info5; have hroom58 : t361.length ≤ co56 := (Kd.R_reads' HO_5.out).2.1; have hC58 : Kd.C (Kd.int .u8) _ Ao56 t361.length t361 := (Kd.R_reads' HO_5.out).2.2; have hcut58 := cut_to (P := Try.prog) 24 5 .i64 Try.underlying24 hi058 Ao56 t361.length co56 (ji32) (of_decide_eq_true (by first | (with_reducible assumption) | assumption)) q58 hroom58; have hr58 := Kd.C_take (m := ((ji32) : Int).toNat) hC58 (by omega); have hy58 : y383.length = ((ji32) : Int).toNat := (by rw [Ny383.out, List.length_take]; omega); rw [← Ny383.out] at hr58; rw [← hy58] at hcut58; have HR386 := Aside0.mk hr58; have HC386 := Aside0.mk (show y383.length ≤ co56 from by omega); clear hr58 hC58 hroom58 hi058 hsz58; have KY58 := Aside0.mk hy58; clear hy58; have KL58 := Aside0.mk (show ((ji32) : Int).toNat ≤ t361.length from by omega); replace q58 := eq_true q58) | ((with_reducible refine gate_callee (f := 15) rfl ?_); refine goesL_ (some 86) rfl rfl Try.func15 (by kernel_rfl) rfl #[.slice Ao56 y383.length co56] rfl (by (try simp only [List.map_toArray, List.map_cons, List.map_nil]); first | done | rfl | (simp only [List.length_drop, List.length_take]; rfl)) ?_; (with_reducible refine (index_List.calls _ _ y383 t387 t388 _ ?side1 ?side2 A35.out).mono ?_); (case side1 => repeat (first | exact (by repeat (first | (with_reducible exact HR386.out) | (with_reducible refine Kd.C_alloc ?_ _) | (with_reducible refine Kd.C_drewN ?_ _) | (with_reducible refine Kd.C_drew ?_) | exact HR386.out)) | (with_reducible refine Kd.C_alloc ?_ _) | (with_reducible refine Kd.C_drewN ?_ _) | (with_reducible refine Kd.C_drew ?_))); (case side2 => exact HC386.out); rintro e w59 ⟨v389, rfl, ho0, hb⟩; refine ⟨_, rfl, ?_⟩; have n0_ := Aside0.mk (Kd.R_below (by (with_reducible repeat (first | apply Kd.R_alloc | apply Kd.R_drewN | apply Kd.R_drew)); exact HO_5.out) hb); have n1_ := Aside0.mk (Kd.R_below (by (with_reducible repeat (first | apply Kd.R_alloc | apply Kd.R_drewN | apply Kd.R_drew)); exact HO380.out) hb); have n2_ := Aside0.mk (Kd.R_below (by (with_reducible repeat (first | apply Kd.R_alloc | apply Kd.R_drewN | apply Kd.R_drew)); exact HO382.out) hb); have n3_ := Aside0.mk (Kd.R_lower ho0 (below_size (by repeat (first | (with_reducible first | exact HB.out | apply below_alloc | apply pw_below_drewN | apply below_drew1) | exact HB.out)))); have n4_ := Aside0.mk (Kd.C_below (by repeat (first | (with_reducible exact HR386.out) | (with_reducible refine Kd.C_alloc ?_ _) | (with_reducible refine Kd.C_drewN ?_ _) | (with_reducible refine Kd.C_drew ?_) | exact HR386.out)) hb); have n5_ := Aside0.mk (below_step (by repeat (first | (with_reducible first | exact HB.out | apply below_alloc | apply pw_below_drewN | apply below_drew1) | exact HB.out)) hb); clear HO_5; clear HO380; clear HO382; clear HR386; clear HB; have HO_5 := n0_; have HO380 := n1_; have HO382 := n2_; have HO390 := n3_; have HR386 := n4_; have HB := n5_; clear n0_ n1_ n2_ n3_ n4_ n5_; (try clear hb); (try clear hb2); (try clear hk); (try clear hi); (try clear ho0)) | ((with_reducible refine gate_callee (f := 15) rfl ?_); refine goesL_ (some 91) rfl rfl Try.func15 (by kernel_rfl) rfl #[.slice Ao57 t376.length co57] rfl (by (try simp only [List.map_toArray, List.map_cons, List.map_nil]); first | done | rfl | (simp only [List.length_drop, List.length_take]; rfl)) ?_; (with_reducible refine (index_List.calls _ _ t376 t391 t392 _ ?side1 ?side2 A36.out).mono ?_); (case side1 => repeat (first | exact (Kd.R_reads' HO380.out).2.2 | (with_reducible refine Kd.C_alloc ?_ _) | (with_reducible refine Kd.C_drewN ?_ _) | (with_reducible refine Kd.C_drew ?_))); (case side2 => exact (Kd.R_reads' HO380.out).2.1); rintro e w60 ⟨v393, rfl, ho0, hb⟩; refine ⟨_, rfl, ?_⟩; have n0_ := Aside0.mk (Kd.R_below (by (with_reducible repeat (first | apply Kd.R_alloc | apply Kd.R_drewN | apply Kd.R_drew)); exact HO_5.out) hb); have n1_ := Aside0.mk (Kd.R_below (by (with_reducible repeat (first | apply Kd.R_alloc | apply Kd.R_drewN | apply Kd.R_drew)); exact HO380.out) hb); have n2_ := Aside0.mk (Kd.R_below (by (with_reducible repeat (first | apply Kd.R_alloc | apply Kd.R_drewN | apply Kd.R_drew)); exact HO382.out) hb); have n3_ := Aside0.mk (Kd.R_elder' (by (with_reducible repeat (first | apply Kd.R_alloc | apply Kd.R_drewN | apply Kd.R_drew)); exact HO390.out) (Kd.R_base ho0) hb); have n4_ := Aside0.mk (Kd.R_lower (Kd.R_new' ho0 (Kd.R_lt (by (with_reducible repeat (first | apply Kd.R_alloc | apply Kd.R_drewN | apply Kd.R_drew)); exact HO390.out))) (below_size (by repeat (first | (with_reducible first | exact HB.out | apply below_alloc | apply pw_below_drewN | apply below_drew1) | exact HB.out)))); have n5_ := Aside0.mk (Kd.C_below (by repeat (first | (with_reducible exact HR386.out) | (with_reducible refine Kd.C_alloc ?_ _) | (with_reducible refine Kd.C_drewN ?_ _) | (with_reducible refine Kd.C_drew ?_) | exact HR386.out)) hb); have n6_ := Aside0.mk (below_step (by repeat (first | (with_reducible first | exact HB.out | apply below_alloc | apply pw_below_drewN | apply below_drew1) | exact HB.out)) hb); clear HO_5; clear HO380; clear HO382; clear HO390; clear HR386; clear HB; have HO_5 := n0_; have HO380 := n1_; have HO382 := n2_; have HO390 := n3_; have HO394 := n4_; have HR386 := n5_; have HB := n6_; clear n0_ n1_ n2_ n3_ n4_ n5_ n6_; (try clear hb); (try clear hb2); (try clear hk); (try clear hi); (try clear ho0)))
                            go_ret
                            exact ⟨by first | rfl | (simp [errW_none, errW_some] <;> rfl) | (simp only [← hji22, ← hji32]; first | rfl | (simp [errW_none, errW_some] <;> rfl)) | (simp [*, errW_none, errW_some] <;> rfl), by repeat (first | (with_reducible first | exact HB.out | apply below_alloc | apply pw_below_drewN | apply below_drew1) | exact HB.out)⟩
                        · rw [if_neg c34] at H
                          exact absurd H (by simp)
                      · rw [if_neg c33] at H
                        exact absurd H (by simp)
                · rw [if_neg c24] at H
                  exact absurd H (by simp)
              · rw [if_neg c23] at H
                exact absurd H (by simp)

end Go.Proofs.Ytohmbmjneainbaa.QB
