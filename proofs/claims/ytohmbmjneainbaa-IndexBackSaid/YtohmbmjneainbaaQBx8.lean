/- What functions of the translation come to, each as a Lean function, and a proof that the call comes to just that; or a law's row, out of its plain law. Written by mp.py, a program of this session, which runs the printer of the kit with stand-in bodies for some library functions. -/
import Derived.Test.YtohmbmjneainbaaQBx0
import Derived.Test.YtohmbmjneainbaaQBx7
import Derived.Test.YtohmbmjneainbaaStrLq
namespace Go.Proofs.Ytohmbmjneainbaa.QB
open Go.RowKit Go.Proofs.YtohmbmjneainbaaW.PrintWords Go.Proofs.YtohmbmjneainbaaW.PrintLast Go.Proofs.YtohmbmjneainbaaW.PrintMore
attribute [local go_sem] max2_int min2_int max_two min_two max_three min_three max_four min_four   -- for this text's walks alone
attribute [local go_sem high] Go.Proofs.Ytohmbmjneainbaa.StrLq.str_leq Go.Proofs.Ytohmbmjneainbaa.StrLq.str_gtr Go.Proofs.Ytohmbmjneainbaa.StrLq.str_geq
set_option linter.unusedVariables false
set_option linter.unusedSimpArgs false

/-! ### thermographref08_Check: function 10 -/
mutual
def thermographref08_Check.l0 : Nat → List (S49) → Int → Option (Int)
  | 0, _, _ => none
  | k + 1, x0, x3 => if x3 < (x0.length : Int) then (if 0 ≤ x3 then (if (((rd_T49 x0 x3).f0).size : Int) < 1 then (thermographref08_Check.j1 k x0 x3 true) else (thermographref08_Check.j1 k x0 x3 (decide ((((rd_T49 x0 x3).f0).size : Int) > 16)))) else (none)) else (some 0)
def thermographref08_Check.j1 : Nat → List (S49) → Int → Bool → Option (Int)
  | 0, _, _, _ => none
  | k + 1, x0, x3, x25 => if x25 = true then (some 80) else (if 0 ≤ x3 then (if x3 < (x0.length : Int) then ((thermographref08_within.f ((rd_T49 x0 x3).f1)).bind fun t157 => (if t157 = true then ((thermographref08_within.f ((rd_T49 x0 x3).f2)).bind fun t159 => (thermographref08_Check.j2 k x0 x3 (!t159))) else (thermographref08_Check.j2 k x0 x3 true))) else (none)) else (none))
def thermographref08_Check.j2 : Nat → List (S49) → Int → Bool → Option (Int)
  | 0, _, _, _ => none
  | k + 1, x0, x3, x41 => if x41 = true then (some 1) else (if x3 > 0 then (if 0 ≤ x3 then (if x3 < (x0.length : Int) then (if 0 ≤ (wrap64 (x3 - 1)) then (if (wrap64 (x3 - 1)) < (x0.length : Int) then (if ((Op.bytesLess (((rd_T49 x0 (wrap64 (x3 - 1))).f0).toList) (((rd_T49 x0 x3).f0).toList)) = true) then (thermographref08_Check.l0 k x0 (wrap64 (x3 + 1))) else (some 51)) else (none)) else (none)) else (none)) else (none)) else (thermographref08_Check.l0 k x0 (wrap64 (x3 + 1))))
end
def thermographref08_Check.f (k : Nat) (l0 : List (S49)) : Option (Int) := thermographref08_Check.l0 k l0 0
theorem thermographref08_Check.mono_l : ∀ k, (∀ y0 y1, LeO (thermographref08_Check.l0 k y0 y1) (thermographref08_Check.l0 (k + 1) y0 y1)) ∧ (∀ y0 y1 y2, LeO (thermographref08_Check.j1 k y0 y1 y2) (thermographref08_Check.j1 (k + 1) y0 y1 y2)) ∧ (∀ y0 y1 y2, LeO (thermographref08_Check.j2 k y0 y1 y2) (thermographref08_Check.j2 (k + 1) y0 y1 y2))
  | 0 => ⟨fun _ _ r h => by simp [thermographref08_Check.l0] at h, fun _ _ _ r h => by simp [thermographref08_Check.j1] at h, fun _ _ _ r h => by simp [thermographref08_Check.j2] at h⟩
  | k + 1 => by
    obtain ⟨ih0, ih1, ih2⟩ := thermographref08_Check.mono_l k
    refine ⟨?_, ?_, ?_⟩
    · intro y0 y1
      unfold thermographref08_Check.l0
      repeat' first
      | (with_reducible exact ih0 _ _)
      | (with_reducible exact ih1 _ _ _)
      | (with_reducible exact ih2 _ _ _)
      | (with_reducible exact LeO.refl _)
      | (with_reducible exact LeO.none _)
      | (with_reducible refine LeO.ite ?_ ?_)
      | (with_reducible refine LeO.bind ?_ (fun _ => ?_))
      | exact ih0 _ _
      | exact ih1 _ _ _
      | exact ih2 _ _ _
      | exact LeO.none _
      | refine LeO.ite ?_ ?_
      | refine LeO.bind ?_ (fun _ => ?_)
    · intro y0 y1 y2
      unfold thermographref08_Check.j1
      repeat' first
      | (with_reducible exact ih0 _ _)
      | (with_reducible exact ih1 _ _ _)
      | (with_reducible exact ih2 _ _ _)
      | (with_reducible exact LeO.refl _)
      | (with_reducible exact LeO.none _)
      | (with_reducible refine LeO.ite ?_ ?_)
      | (with_reducible refine LeO.bind ?_ (fun _ => ?_))
      | exact ih0 _ _
      | exact ih1 _ _ _
      | exact ih2 _ _ _
      | exact LeO.none _
      | refine LeO.ite ?_ ?_
      | refine LeO.bind ?_ (fun _ => ?_)
    · intro y0 y1 y2
      unfold thermographref08_Check.j2
      repeat' first
      | (with_reducible exact ih0 _ _)
      | (with_reducible exact ih1 _ _ _)
      | (with_reducible exact ih2 _ _ _)
      | (with_reducible exact LeO.refl _)
      | (with_reducible exact LeO.none _)
      | (with_reducible refine LeO.ite ?_ ?_)
      | (with_reducible refine LeO.bind ?_ (fun _ => ?_))
      | exact ih0 _ _
      | exact ih1 _ _ _
      | exact ih2 _ _ _
      | exact LeO.none _
      | refine LeO.ite ?_ ?_
      | refine LeO.bind ?_ (fun _ => ?_)
theorem thermographref08_Check.mono : ∀ a0 k, LeO (thermographref08_Check.f k a0) (thermographref08_Check.f (k + 1) a0) := by
  intro a0 k
  obtain ⟨ih0, ih1, ih2⟩ := thermographref08_Check.mono_l k
  unfold thermographref08_Check.f
  repeat' first
      | (with_reducible exact ih0 _ _)
      | (with_reducible exact ih1 _ _ _)
      | (with_reducible exact ih2 _ _ _)
      | (with_reducible exact LeO.refl _)
      | (with_reducible exact LeO.none _)
      | (with_reducible refine LeO.ite ?_ ?_)
      | (with_reducible refine LeO.bind ?_ (fun _ => ?_))
      | exact ih0 _ _
      | exact ih1 _ _ _
      | exact ih2 _ _ _
      | exact LeO.none _
      | refine LeO.ite ?_ ?_
      | refine LeO.bind ?_ (fun _ => ?_)
set_option maxHeartbeats 8000000 in
set_option maxRecDepth 100000 in
theorem thermographref08_Check.calls (k : Nat) (A0 : Option Addr) (c0 : Nat) (l0 : List (S49)) (r : Int) (w : World) (hr0 : Kd.C k49 w A0 l0.length l0) (hc0 : l0.length ≤ c0) (h : thermographref08_Check.f k l0 = some r) :
    Calls Try.prog 10 #[.slice A0 l0.length c0] w fun e w' => e = .returned (.int .i64 r) ∧ Drawn0 w w' := by
  have HR0 := Aside0.mk hr0
  have HC0 := Aside0.mk hc0
  clear hr0 hc0
  have H : (thermographref08_Check.l0 k l0 0) = some r := h
  clear h
  have H' := Aside0.mk H
  clear H
  go_enter Try.func10, Try.ntmps10
  go_wp2
  repeat (go_quiet (fail); try go_wp2)
  go_loopg [3] k (fun kq v3 w' => ∃ (x3_1 : Int), v3 = .int .i64 x3_1 ∧ Aside0 (thermographref08_Check.l0 kq l0 x3_1 = some r) ∧ Aside0 (kq ≤ k) ∧ Drawn0 w w')
  case atStart => exact ⟨(0), (by first | rfl | (simp; done) | (simp [*]; done)), H', ⟨Nat.le_refl _⟩, by repeat (first | exact Drawn0.refl _ | apply Drawn0.step)⟩
  case round =>
    clear H'
    try clear c1
    obtain ⟨x3_1, rfl, HA, HK1, ⟨m1, rfl⟩⟩ := hrel
    cases gk with
    | zero => exact absurd HA.out (by simp [thermographref08_Check.l0])
    | succ k1 =>
      have H := HA.out
      clear HA
      simp only [thermographref08_Check.l0] at H
      by_cases c2 : x3_1 < (l0.length : Int)
      · rw [if_pos c2] at H
        have c2b0 : decide (x3_1 < (l0.length : Int)) = true := decide_eq_true c2
        clear c2
        have HC3 := Aside0.mk H
        clear H
        go_upto_region 4 with (fail)
        repeat (go_quiet (fail); go_upto_region 4 with (fail))
        go_cut [25] (fun v25 wc => ∃ (kq : Nat) (x25_2 : Bool), v25 = .bool x25_2 ∧ Aside0 (thermographref08_Check.j1 kq l0 x3_1 x25_2 = some r) ∧ Aside0 (kq ≤ k1) ∧ Drawn0 w wc)
        case first =>
          have H := HC3.out
          clear HC3
          by_cases c4 : 0 ≤ x3_1
          · rw [if_pos c4] at H
            have c4b0 : decide (0 ≤ x3_1) = true := decide_eq_true c4
            clear c4
            (first | rw [c4b0] | (simp only [i64_w, i32_w]; rw [c4b0]) | skip)
            by_cases c5 : (((rd_T49 l0 x3_1).f0).size : Int) < 1
            · rw [if_pos c5] at H
              have c5b0 : decide ((((rd_T49 l0 x3_1).f0).size : Int) < 1) = true := decide_eq_true c5
              have c5b1 : decide (((rd_T49 l0 x3_1).f0).size < 1) = true := decide_eq_true (by omega)
              clear c5
              have H' := Aside0.mk H
              clear H
              have p154 : 0 ≤ (x3_1 : Int) := of_decide_eq_true (by first | (with_reducible assumption) | assumption)
              have q154 : x3_1 < (l0.length : Int) := of_decide_eq_true (by first | (with_reducible assumption) | assumption)
              obtain ⟨ad154, e154, hx154_0, hx154_1, hx154_2, hx154_3⟩ := at_T49 HR0.out x3_1 p154 q154
              cases e154
              replace p154 := eq_true p154
              replace q154 := eq_true q154
              go_wp2
              repeat (go_quiet (fail); try go_wp2)
              go_meet
              case rel => exact ⟨_, (true), (by first | rfl | (simp; done) | (simp [*]; done)), H', ⟨by have := HK1.out; first | omega | exact Nat.le_refl _⟩, by repeat (first | exact Drawn0.refl _ | apply Drawn0.step)⟩
            · rw [if_neg c5] at H
              have c5b0 : decide ((((rd_T49 l0 x3_1).f0).size : Int) < 1) = false := decide_eq_false c5
              have c5b1 : decide (((rd_T49 l0 x3_1).f0).size < 1) = false := decide_eq_false (by omega)
              clear c5
              have H' := Aside0.mk H
              clear H
              have p154 : 0 ≤ (x3_1 : Int) := of_decide_eq_true (by first | (with_reducible assumption) | assumption)
              have q154 : x3_1 < (l0.length : Int) := of_decide_eq_true (by first | (with_reducible assumption) | assumption)
              obtain ⟨ad154, e154, hx154_0, hx154_1, hx154_2, hx154_3⟩ := at_T49 HR0.out x3_1 p154 q154
              cases e154
              replace p154 := eq_true p154
              replace q154 := eq_true q154
              have p155 : 0 ≤ (x3_1 : Int) := of_decide_eq_true (by first | (with_reducible assumption) | assumption)
              have q155 : x3_1 < (l0.length : Int) := of_decide_eq_true (by first | (with_reducible assumption) | assumption)
              obtain ⟨ad155, e155, hx155_0, hx155_1, hx155_2, hx155_3⟩ := at_T49 HR0.out x3_1 p155 q155
              obtain rfl : ad154 = ad155 := (by injection e155)
              replace p155 := eq_true p155
              replace q155 := eq_true q155
              go_wp2
              repeat (go_quiet (fail); try go_wp2)
              go_meet
              case rel => exact ⟨_, (decide ((((rd_T49 l0 x3_1).f0).size : Int) > 16)), (by first | rfl | (simp; done) | (simp [*]; done)), H', ⟨by have := HK1.out; first | omega | exact Nat.le_refl _⟩, by repeat (first | exact Drawn0.refl _ | apply Drawn0.step)⟩
          · rw [if_neg c4] at H
            exact absurd H (by simp)
        case rest =>
          clear HC3
          try clear c1
          try clear p1
          try clear q1
          try clear hx1
          try clear c2
          try clear c2b0
          try clear p2
          try clear c4
          try clear c4b0
          try clear c5
          try clear c5b0
          try clear c5b1
          try clear hx154_0
          try clear hx154_1
          try clear hx154_2
          try clear hx154_3
          try clear hx155_0
          try clear hx155_1
          try clear hx155_2
          try clear hx155_3
          try clear p154
          try clear p155
          try clear q154
          try clear q155
          obtain ⟨kq, x25_2, rfl, HA, HJ2, ⟨mc2, rfl⟩⟩ := hcut
          cases kq with
          | zero => exact absurd HA.out (by simp [thermographref08_Check.j1])
          | succ kj2 =>
            have H := HA.out
            clear HA
            simp only [thermographref08_Check.j1] at H
            by_cases c6 : x25_2 = true
            · subst c6
              have H1 : (some 80) = some r := by rw [if_pos rfl] at H; exact H
              clear H
              have H := H1
              clear H1
              obtain rfl := Option.some.inj H
              go_wp2
              repeat (go_quiet (fail); try go_wp2)
              go_ret
              exact ⟨by first | rfl | (simp; done) | (simp [*]; done), by repeat (first | exact Drawn0.refl _ | apply Drawn0.step)⟩
            · replace c6 := Bool.eq_false_iff.mpr c6
              subst c6
              have H1 : (if 0 ≤ x3_1 then (if x3_1 < (l0.length : Int) then ((thermographref08_within.f ((rd_T49 l0 x3_1).f1)).bind fun t157 => (if t157 = true then ((thermographref08_within.f ((rd_T49 l0 x3_1).f2)).bind fun t159 => (thermographref08_Check.j2 kj2 l0 x3_1 (!t159))) else (thermographref08_Check.j2 kj2 l0 x3_1 true))) else (none)) else (none)) = some r := by rw [if_neg (show ¬ (false = true) by decide)] at H; exact H
              clear H
              have H := H1
              clear H1
              have HC7 := Aside0.mk H
              clear H
              go_upto_region 6 with (fail)
              repeat (go_quiet (fail); go_upto_region 6 with (fail))
              go_cut [41] (fun v41 wc => ∃ (kq : Nat) (x41_6 : Bool), v41 = .bool x41_6 ∧ Aside0 (thermographref08_Check.j2 kq l0 x3_1 x41_6 = some r) ∧ Aside0 (kq ≤ kj2) ∧ Drawn0 w wc)
              case first =>
                have H := HC7.out
                clear HC7
                by_cases c8 : 0 ≤ x3_1
                · rw [if_pos c8] at H
                  have c8b0 : decide (0 ≤ x3_1) = true := decide_eq_true c8
                  clear c8
                  (first | rw [c8b0] | (simp only [i64_w, i32_w]; rw [c8b0]) | skip)
                  by_cases c9 : x3_1 < (l0.length : Int)
                  · rw [if_pos c9] at H
                    have c9b0 : decide (x3_1 < (l0.length : Int)) = true := decide_eq_true c9
                    clear c9
                    replace H := Option.bind_eq_some_iff.mp H
                    obtain ⟨t157, A100, H⟩ := H
                    replace H : (if t157 = true then ((thermographref08_within.f ((rd_T49 l0 x3_1).f2)).bind fun t159 => (thermographref08_Check.j2 kj2 l0 x3_1 (!t159))) else (thermographref08_Check.j2 kj2 l0 x3_1 true)) = some r := H
                    have A10 := Aside0.mk A100
                    clear A100
                    by_cases c11 : t157 = true
                    · subst c11
                      have H1 : ((thermographref08_within.f ((rd_T49 l0 x3_1).f2)).bind fun t159 => (thermographref08_Check.j2 kj2 l0 x3_1 (!t159))) = some r := by rw [if_pos rfl] at H; exact H
                      clear H
                      have H := H1
                      clear H1
                      replace H := Option.bind_eq_some_iff.mp H
                      obtain ⟨t159, A120, H⟩ := H
                      replace H : (thermographref08_Check.j2 kj2 l0 x3_1 (!t159)) = some r := H
                      have A12 := Aside0.mk A120
                      clear A120
                      have H' := Aside0.mk H
                      clear H
                      have p156 : 0 ≤ (x3_1 : Int) := of_decide_eq_true (by first | (with_reducible assumption) | assumption)
                      have q156 : x3_1 < (l0.length : Int) := of_decide_eq_true (by first | (with_reducible assumption) | assumption)
                      obtain ⟨ad156, e156, hx156_0, hx156_1, hx156_2, hx156_3⟩ := at_T49 HR0.out x3_1 p156 q156
                      cases e156
                      replace p156 := eq_true p156
                      replace q156 := eq_true q156
                      go_wp2_with (first | (go_at_call 21; (with_reducible refine (thermographref08_within.calls ((rd_T49 l0 x3_1).f1) true _ A10.out).mono ?_); rintro e w' ⟨rfl, ⟨nd, rfl⟩⟩; (try first | exact ⟨rfl, _, World.drewN_drewN _ _ _⟩ | exact ⟨rfl, _, Eq.trans (World.drewN_drewN _ _ _) (congrArg (World.drewN _) (Nat.add_assoc _ _ _))⟩); have p158 : 0 ≤ (x3_1 : Int) := of_decide_eq_true (by first | (with_reducible assumption) | assumption); have q158 : x3_1 < (l0.length : Int) := of_decide_eq_true (by first | (with_reducible assumption) | assumption); obtain ⟨ad158, e158, hx158_0, hx158_1, hx158_2, hx158_3⟩ := at_T49 HR0.out x3_1 p158 q158; obtain rfl : ad156 = ad158 := (by injection e158); replace p158 := eq_true p158; replace q158 := eq_true q158) | (go_at_call 21; (with_reducible refine (thermographref08_within.calls ((rd_T49 l0 x3_1).f2) t159 _ A12.out).mono ?_); rintro e w' ⟨rfl, ⟨nd, rfl⟩⟩; (try first | exact ⟨rfl, _, World.drewN_drewN _ _ _⟩ | exact ⟨rfl, _, Eq.trans (World.drewN_drewN _ _ _) (congrArg (World.drewN _) (Nat.add_assoc _ _ _))⟩)))
                      repeat (go_quiet (first | (go_at_call 21; (with_reducible refine (thermographref08_within.calls ((rd_T49 l0 x3_1).f1) true _ A10.out).mono ?_); rintro e w' ⟨rfl, ⟨nd, rfl⟩⟩; (try first | exact ⟨rfl, _, World.drewN_drewN _ _ _⟩ | exact ⟨rfl, _, Eq.trans (World.drewN_drewN _ _ _) (congrArg (World.drewN _) (Nat.add_assoc _ _ _))⟩); have p158 : 0 ≤ (x3_1 : Int) := of_decide_eq_true (by first | (with_reducible assumption) | assumption); have q158 : x3_1 < (l0.length : Int) := of_decide_eq_true (by first | (with_reducible assumption) | assumption); obtain ⟨ad158, e158, hx158_0, hx158_1, hx158_2, hx158_3⟩ := at_T49 HR0.out x3_1 p158 q158; obtain rfl : ad156 = ad158 := (by injection e158); replace p158 := eq_true p158; replace q158 := eq_true q158) | (go_at_call 21; (with_reducible refine (thermographref08_within.calls ((rd_T49 l0 x3_1).f2) t159 _ A12.out).mono ?_); rintro e w' ⟨rfl, ⟨nd, rfl⟩⟩; (try first | exact ⟨rfl, _, World.drewN_drewN _ _ _⟩ | exact ⟨rfl, _, Eq.trans (World.drewN_drewN _ _ _) (congrArg (World.drewN _) (Nat.add_assoc _ _ _))⟩))); try go_wp2_with (first | (go_at_call 21; (with_reducible refine (thermographref08_within.calls ((rd_T49 l0 x3_1).f1) true _ A10.out).mono ?_); rintro e w' ⟨rfl, ⟨nd, rfl⟩⟩; (try first | exact ⟨rfl, _, World.drewN_drewN _ _ _⟩ | exact ⟨rfl, _, Eq.trans (World.drewN_drewN _ _ _) (congrArg (World.drewN _) (Nat.add_assoc _ _ _))⟩); have p158 : 0 ≤ (x3_1 : Int) := of_decide_eq_true (by first | (with_reducible assumption) | assumption); have q158 : x3_1 < (l0.length : Int) := of_decide_eq_true (by first | (with_reducible assumption) | assumption); obtain ⟨ad158, e158, hx158_0, hx158_1, hx158_2, hx158_3⟩ := at_T49 HR0.out x3_1 p158 q158; obtain rfl : ad156 = ad158 := (by injection e158); replace p158 := eq_true p158; replace q158 := eq_true q158) | (go_at_call 21; (with_reducible refine (thermographref08_within.calls ((rd_T49 l0 x3_1).f2) t159 _ A12.out).mono ?_); rintro e w' ⟨rfl, ⟨nd, rfl⟩⟩; (try first | exact ⟨rfl, _, World.drewN_drewN _ _ _⟩ | exact ⟨rfl, _, Eq.trans (World.drewN_drewN _ _ _) (congrArg (World.drewN _) (Nat.add_assoc _ _ _))⟩))))
                      go_meet
                      case rel => exact ⟨_, (!t159), (by first | rfl | (simp; done) | (simp [*]; done)), H', ⟨by have := HK1.out; have := HJ2.out; first | omega | exact Nat.le_refl _⟩, by repeat (first | exact Drawn0.refl _ | apply Drawn0.step)⟩
                    · replace c11 := Bool.eq_false_iff.mpr c11
                      subst c11
                      have H1 : (thermographref08_Check.j2 kj2 l0 x3_1 true) = some r := by rw [if_neg (show ¬ (false = true) by decide)] at H; exact H
                      clear H
                      have H := H1
                      clear H1
                      have H' := Aside0.mk H
                      clear H
                      have p156 : 0 ≤ (x3_1 : Int) := of_decide_eq_true (by first | (with_reducible assumption) | assumption)
                      have q156 : x3_1 < (l0.length : Int) := of_decide_eq_true (by first | (with_reducible assumption) | assumption)
                      obtain ⟨ad156, e156, hx156_0, hx156_1, hx156_2, hx156_3⟩ := at_T49 HR0.out x3_1 p156 q156
                      cases e156
                      replace p156 := eq_true p156
                      replace q156 := eq_true q156
                      go_wp2_with (first | (go_at_call 21; (with_reducible refine (thermographref08_within.calls ((rd_T49 l0 x3_1).f1) false _ A10.out).mono ?_); rintro e w' ⟨rfl, ⟨nd, rfl⟩⟩; (try first | exact ⟨rfl, _, World.drewN_drewN _ _ _⟩ | exact ⟨rfl, _, Eq.trans (World.drewN_drewN _ _ _) (congrArg (World.drewN _) (Nat.add_assoc _ _ _))⟩)))
                      repeat (go_quiet (first | (go_at_call 21; (with_reducible refine (thermographref08_within.calls ((rd_T49 l0 x3_1).f1) false _ A10.out).mono ?_); rintro e w' ⟨rfl, ⟨nd, rfl⟩⟩; (try first | exact ⟨rfl, _, World.drewN_drewN _ _ _⟩ | exact ⟨rfl, _, Eq.trans (World.drewN_drewN _ _ _) (congrArg (World.drewN _) (Nat.add_assoc _ _ _))⟩))); try go_wp2_with (first | (go_at_call 21; (with_reducible refine (thermographref08_within.calls ((rd_T49 l0 x3_1).f1) false _ A10.out).mono ?_); rintro e w' ⟨rfl, ⟨nd, rfl⟩⟩; (try first | exact ⟨rfl, _, World.drewN_drewN _ _ _⟩ | exact ⟨rfl, _, Eq.trans (World.drewN_drewN _ _ _) (congrArg (World.drewN _) (Nat.add_assoc _ _ _))⟩))))
                      go_meet
                      case rel => exact ⟨_, (true), (by first | rfl | (simp; done) | (simp [*]; done)), H', ⟨by have := HK1.out; have := HJ2.out; first | omega | exact Nat.le_refl _⟩, by repeat (first | exact Drawn0.refl _ | apply Drawn0.step)⟩
                  · rw [if_neg c9] at H
                    exact absurd H (by simp)
                · rw [if_neg c8] at H
                  exact absurd H (by simp)
              case rest =>
                clear HC7
                try clear c1
                try clear p1
                try clear q1
                try clear hx1
                try clear c2
                try clear c2b0
                try clear p2
                try clear c4
                try clear c4b0
                try clear c5
                try clear c5b0
                try clear c5b1
                try clear c6
                try clear c8
                try clear c8b0
                try clear c9
                try clear c9b0
                try clear c10
                try clear c11
                try clear hx154_0
                try clear hx154_1
                try clear hx154_2
                try clear hx154_3
                try clear hx155_0
                try clear hx155_1
                try clear hx155_2
                try clear hx155_3
                try clear hx156_0
                try clear hx156_1
                try clear hx156_2
                try clear hx156_3
                try clear hx158_0
                try clear hx158_1
                try clear hx158_2
                try clear hx158_3
                try clear p1
                try clear p154
                try clear p155
                try clear p156
                try clear p158
                try clear p2
                try clear q1
                try clear q154
                try clear q155
                try clear q156
                try clear q158
                obtain ⟨kq, x41_6, rfl, HA, HJ6, ⟨mc6, rfl⟩⟩ := hcut
                cases kq with
                | zero => exact absurd HA.out (by simp [thermographref08_Check.j2])
                | succ kj6 =>
                  have H := HA.out
                  clear HA
                  simp only [thermographref08_Check.j2] at H
                  by_cases c13 : x41_6 = true
                  · subst c13
                    have H1 : (some 1) = some r := by rw [if_pos rfl] at H; exact H
                    clear H
                    have H := H1
                    clear H1
                    obtain rfl := Option.some.inj H
                    go_wp2
                    repeat (go_quiet (fail); try go_wp2)
                    go_ret
                    exact ⟨by first | rfl | (simp; done) | (simp [*]; done), by repeat (first | exact Drawn0.refl _ | apply Drawn0.step)⟩
                  · replace c13 := Bool.eq_false_iff.mpr c13
                    subst c13
                    have H1 : (if x3_1 > 0 then (if 0 ≤ x3_1 then (if x3_1 < (l0.length : Int) then (if 0 ≤ (wrap64 (x3_1 - 1)) then (if (wrap64 (x3_1 - 1)) < (l0.length : Int) then (if ((Op.bytesLess (((rd_T49 l0 (wrap64 (x3_1 - 1))).f0).toList) (((rd_T49 l0 x3_1).f0).toList)) = true) then (thermographref08_Check.l0 kj6 l0 (wrap64 (x3_1 + 1))) else (some 51)) else (none)) else (none)) else (none)) else (none)) else (thermographref08_Check.l0 kj6 l0 (wrap64 (x3_1 + 1)))) = some r := by rw [if_neg (show ¬ (false = true) by decide)] at H; exact H
                    clear H
                    have H := H1
                    clear H1
                    by_cases c14 : x3_1 > 0
                    · rw [if_pos c14] at H
                      have c14b0 : decide (0 < x3_1) = true := decide_eq_true c14
                      clear c14
                      by_cases c15 : 0 ≤ x3_1
                      · rw [if_pos c15] at H
                        have c15b0 : decide (0 ≤ x3_1) = true := decide_eq_true c15
                        clear c15
                        by_cases c16 : x3_1 < (l0.length : Int)
                        · rw [if_pos c16] at H
                          have c16b0 : decide (x3_1 < (l0.length : Int)) = true := decide_eq_true c16
                          clear c16
                          obtain ⟨ji17, hji17⟩ : ∃ j_ : Int, (wrap64 (x3_1 - 1)) = j_ := ⟨_, rfl⟩
                          replace H : (if 0 ≤ (ji17) then (if (ji17) < (l0.length : Int) then (if ((Op.bytesLess (((rd_T49 l0 (ji17)).f0).toList) (((rd_T49 l0 x3_1).f0).toList)) = true) then (thermographref08_Check.l0 kj6 l0 (wrap64 (x3_1 + 1))) else (some 51)) else (none)) else (none)) = some r := by first | (rw [hji17] at H; exact H) | (simp only [hji17] at H ⊢; exact H)
                          have hji17w : (IntKind.i64.wrap (x3_1 - 1)) = ji17 := (i64_w _).trans hji17
                          by_cases c18 : 0 ≤ (ji17)
                          · rw [if_pos c18] at H
                            have c18b0 : decide (0 ≤ (ji17)) = true := decide_eq_true c18
                            clear c18
                            by_cases c19 : (ji17) < (l0.length : Int)
                            · rw [if_pos c19] at H
                              have c19b0 : decide ((ji17) < (l0.length : Int)) = true := decide_eq_true c19
                              clear c19
                              by_cases c20 : ((Op.bytesLess (((rd_T49 l0 (ji17)).f0).toList) (((rd_T49 l0 x3_1).f0).toList)) = true)
                              · rw [if_pos c20] at H
                                have c20b0 : (Op.bytesLess (((rd_T49 l0 (ji17)).f0).toList) (((rd_T49 l0 x3_1).f0).toList)) = true := c20
                                clear c20
                                have H' := Aside0.mk H
                                clear H
                                have p160 : 0 ≤ (x3_1 : Int) := of_decide_eq_true (by first | (with_reducible assumption) | assumption)
                                have q160 : x3_1 < (l0.length : Int) := of_decide_eq_true (by first | (with_reducible assumption) | assumption)
                                obtain ⟨ad160, e160, hx160_0, hx160_1, hx160_2, hx160_3⟩ := at_T49 HR0.out x3_1 p160 q160
                                cases e160
                                replace p160 := eq_true p160
                                replace q160 := eq_true q160
                                have p161 : 0 ≤ ((ji17) : Int) := of_decide_eq_true (by first | (with_reducible assumption) | assumption)
                                have q161 : (ji17) < (l0.length : Int) := of_decide_eq_true (by first | (with_reducible assumption) | assumption)
                                obtain ⟨ad161, e161, hx161_0, hx161_1, hx161_2, hx161_3⟩ := at_T49 HR0.out (ji17) p161 q161
                                obtain rfl : ad160 = ad161 := (by injection e161)
                                replace p161 := eq_true p161
                                replace q161 := eq_true q161
                                go_wp2
                                repeat (go_quiet (fail); try go_wp2)
                                go_roundg kj6
                                case measure => have := HK1.out; have := HJ2.out; have := HJ6.out; omega
                                case rel => exact ⟨(wrap64 (x3_1 + 1)), (by first | rfl | (simp; done) | (simp [*]; done)), H', ⟨by have := HK1.out; have := HJ2.out; have := HJ6.out; omega⟩, by repeat (first | exact Drawn0.refl _ | apply Drawn0.step)⟩
                              · rw [if_neg c20] at H
                                have c20b0 : (Op.bytesLess (((rd_T49 l0 (ji17)).f0).toList) (((rd_T49 l0 x3_1).f0).toList)) = false := by simpa using c20
                                clear c20
                                obtain rfl := Option.some.inj H
                                have p160 : 0 ≤ (x3_1 : Int) := of_decide_eq_true (by first | (with_reducible assumption) | assumption)
                                have q160 : x3_1 < (l0.length : Int) := of_decide_eq_true (by first | (with_reducible assumption) | assumption)
                                obtain ⟨ad160, e160, hx160_0, hx160_1, hx160_2, hx160_3⟩ := at_T49 HR0.out x3_1 p160 q160
                                cases e160
                                replace p160 := eq_true p160
                                replace q160 := eq_true q160
                                have p161 : 0 ≤ ((ji17) : Int) := of_decide_eq_true (by first | (with_reducible assumption) | assumption)
                                have q161 : (ji17) < (l0.length : Int) := of_decide_eq_true (by first | (with_reducible assumption) | assumption)
                                obtain ⟨ad161, e161, hx161_0, hx161_1, hx161_2, hx161_3⟩ := at_T49 HR0.out (ji17) p161 q161
                                obtain rfl : ad160 = ad161 := (by injection e161)
                                replace p161 := eq_true p161
                                replace q161 := eq_true q161
                                go_wp2
                                repeat (go_quiet (fail); try go_wp2)
                                go_ret
                                exact ⟨by first | rfl | (simp; done) | (simp only [← hji17] <;> (first | rfl | simp)) | (simp [*]; done), by repeat (first | exact Drawn0.refl _ | apply Drawn0.step)⟩
                            · rw [if_neg c19] at H
                              exact absurd H (by simp)
                          · rw [if_neg c18] at H
                            exact absurd H (by simp)
                        · rw [if_neg c16] at H
                          exact absurd H (by simp)
                      · rw [if_neg c15] at H
                        exact absurd H (by simp)
                    · rw [if_neg c14] at H
                      have c14b0 : decide (0 < x3_1) = false := decide_eq_false c14
                      clear c14
                      have H' := Aside0.mk H
                      clear H
                      go_wp2
                      repeat (go_quiet (fail); try go_wp2)
                      go_roundg kj6
                      case measure => have := HK1.out; have := HJ2.out; have := HJ6.out; omega
                      case rel => exact ⟨(wrap64 (x3_1 + 1)), (by first | rfl | (simp; done) | (simp [*]; done)), H', ⟨by have := HK1.out; have := HJ2.out; have := HJ6.out; omega⟩, by repeat (first | exact Drawn0.refl _ | apply Drawn0.step)⟩
      · rw [if_neg c2] at H
        have c2b0 : decide (x3_1 < (l0.length : Int)) = false := decide_eq_false c2
        clear c2
        obtain rfl := Option.some.inj H
        go_wp2
        repeat (go_quiet (fail); try go_wp2)
        go_ret
        exact ⟨by first | rfl | (simp; done) | (simp [*]; done), by repeat (first | exact Drawn0.refl _ | apply Drawn0.step)⟩

end Go.Proofs.Ytohmbmjneainbaa.QB
