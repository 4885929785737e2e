/- What functions of the translation come to, each as a Lean function, and a proof that the call comes to just that; or a law's row, out of its plain law. Written by mp.py, a program of this session, which runs the printer of the kit with stand-in bodies for some library functions. -/
import Derived.Test.YtnkcdopjhjmdnaaCdQ
import Derived.Test.YtnkcdopjhjmdnaaCeQ
import Derived.Test.YtnkcdopjhjmdnaaQBx0
import Derived.Test.YtnkcdopjhjmdnaaQBx3
import Derived.Test.YtnkcdopjhjmdnaaQBx5
import Derived.Test.YtnkcdopjhjmdnaaQBx7
import Derived.Test.YtnkcdopjhjmdnaaQBx11
namespace Go.Proofs.Ytnkcdopjhjmdnaa.QB
open Go.RowKit Go.Proofs.YtnkcdopjhjmdnaaW.PrintWords Go.Proofs.YtnkcdopjhjmdnaaW.PrintLast Go.Proofs.YtnkcdopjhjmdnaaW.PrintMore
attribute [local go_sem] max2_int min2_int max_two min_two max_three min_three max_four min_four   -- for this text's walks alone
set_option linter.unusedVariables false
set_option linter.unusedSimpArgs false

/-! ### thermographlaw09_CommitlogTorn: function 5 -/
mutual
def thermographlaw09_CommitlogTorn.l0 : Nat → List (S32) → Int → List Int → List Int → List (S32) → Int → Option (Bool)
  | 0, _, _, _, _, _, _ => none
  | k + 1, x0, x1, x5, x6, x7, x8 => if x8 < (x0.length : Int) then (if 0 ≤ x8 then ((commitlog_Encode.f k ((rd_T32 x0 x8).f0) ((rd_T32 x0 x8).f1) ((rd_T32 x0 x8).f2.f0) ((rd_T32 x0 x8).f2.f1) ((rd_T32 x0 x8).f2.f2)).bind fun bt315 => ((thermographref09_Encode.f k ((rd_T32 x0 x8).f0) ((rd_T32 x0 x8).f1) ((rd_T32 x0 x8).f2.f0) ((rd_T32 x0 x8).f2.f1) ((rd_T32 x0 x8).f2.f2)).bind fun bt320 => (if bt315.2 = bt320.2 then (if bt315.2 = 0 then (if x5.length + bt315.1.length < 140737488355328 then ((some (x5 ++ bt315.1 : List Int)).bind fun y324 => (if x6.length < 17592186044416 then (if x7.length < 2932031007402 then (thermographlaw09_CommitlogTorn.l0 k x0 x1 y324 (x6 ++ [(y324.length : Int)]) (x7 ++ [(⟨(rd_T32 x0 x8).f0, (rd_T32 x0 x8).f1, (⟨(rd_T32 x0 x8).f2.f0, (rd_T32 x0 x8).f2.f1, (rd_T32 x0 x8).f2.f2⟩ : S30)⟩ : S32)]) (wrap64 (x8 + 1))) else (none)) else (none))) else (none)) else (thermographlaw09_CommitlogTorn.l0 k x0 x1 x5 x6 x7 (wrap64 (x8 + 1)))) else (some false)))) else (none)) else (if (wrap64 ((x5.length : Int) + 1)) = 0 then (none) else (thermographlaw09_CommitlogTorn.l1 k (Int.tmod (wrap64 ((wrap64 ((Int.tmod x1 (wrap64 ((x5.length : Int) + 1))) + (x5.length : Int))) + 1)) (wrap64 ((x5.length : Int) + 1))) x5 x6 x7 0))
def thermographlaw09_CommitlogTorn.l1 : Nat → Int → List Int → List Int → List (S32) → Int → Option (Bool)
  | 0, _, _, _, _, _ => none
  | k + 1, x1, x5, x6, x7, x13 => if (wrap64 (x13 + 1)) < (x6.length : Int) then (if 0 ≤ (wrap64 (x13 + 1)) then (if (rd x6 (wrap64 (x13 + 1))) ≤ x1 then (thermographlaw09_CommitlogTorn.l1 k x1 x5 x6 x7 (wrap64 (x13 + 1))) else (if 0 ≤ x1 then (if x1 ≤ (x5.length : Int) then ((commitlog_Decode.f (x5.take (x1 : Int).toNat)).bind fun bt339 => (if 0 ≤ x13 then (if x13 < (x6.length : Int) then (if bt339.2 = (rd x6 x13) then (if x13 ≤ (x7.length : Int) then ((thermographlaw09_same.f k bt339.1 (x7.take (x13 : Int).toNat)).bind fun t348 => (some t348)) else (none)) else (some false)) else (none)) else (none))) else (none)) else (none))) else (none)) else (if 0 ≤ x1 then (if x1 ≤ (x5.length : Int) then ((commitlog_Decode.f (x5.take (x1 : Int).toNat)).bind fun bt353 => (if 0 ≤ x13 then (if x13 < (x6.length : Int) then (if bt353.2 = (rd x6 x13) then (if x13 ≤ (x7.length : Int) then ((thermographlaw09_same.f k bt353.1 (x7.take (x13 : Int).toNat)).bind fun t362 => (some t362)) else (none)) else (some false)) else (none)) else (none))) else (none)) else (none))
end
def thermographlaw09_CommitlogTorn.f (k : Nat) (l0 : List (S32)) (a1 : Int) : Option (Bool) := if (l0.length : Int) > 128 then (some true) else (thermographlaw09_CommitlogTorn.l0 k l0 a1 (([] : List Int)) (([0] : List Int)) (([] : List (S32))) 0)
theorem thermographlaw09_CommitlogTorn.mono_l : ∀ k, (∀ y0 y1 y2 y3 y4 y5, LeO (thermographlaw09_CommitlogTorn.l0 k y0 y1 y2 y3 y4 y5) (thermographlaw09_CommitlogTorn.l0 (k + 1) y0 y1 y2 y3 y4 y5)) ∧ (∀ y0 y1 y2 y3 y4, LeO (thermographlaw09_CommitlogTorn.l1 k y0 y1 y2 y3 y4) (thermographlaw09_CommitlogTorn.l1 (k + 1) y0 y1 y2 y3 y4))
  | 0 => ⟨fun _ _ _ _ _ _ r h => by simp [thermographlaw09_CommitlogTorn.l0] at h, fun _ _ _ _ _ r h => by simp [thermographlaw09_CommitlogTorn.l1] at h⟩
  | k + 1 => by
    obtain ⟨ih0, ih1⟩ := thermographlaw09_CommitlogTorn.mono_l k
    refine ⟨?_, ?_⟩
    · intro y0 y1 y2 y3 y4 y5
      unfold thermographlaw09_CommitlogTorn.l0
      repeat' first
      | (with_reducible exact ih0 _ _ _ _ _ _)
      | (with_reducible exact ih1 _ _ _ _ _)
      | (with_reducible exact commitlog_Encode.mono _ _ _ _ _ _)
      | (with_reducible exact thermographlaw09_same.mono _ _ _)
      | (with_reducible exact thermographref09_Encode.mono _ _ _ _ _ _)
      | (with_reducible exact LeO.refl _)
      | (with_reducible exact LeO.none _)
      | (with_reducible refine LeO.ite ?_ ?_)
      | (with_reducible refine LeO.bind ?_ (fun _ => ?_))
      | exact ih0 _ _ _ _ _ _
      | exact ih1 _ _ _ _ _
      | exact commitlog_Encode.mono _ _ _ _ _ _
      | exact thermographlaw09_same.mono _ _ _
      | exact thermographref09_Encode.mono _ _ _ _ _ _
      | exact LeO.none _
      | refine LeO.ite ?_ ?_
      | refine LeO.bind ?_ (fun _ => ?_)
    · intro y0 y1 y2 y3 y4
      unfold thermographlaw09_CommitlogTorn.l1
      repeat' first
      | (with_reducible exact ih0 _ _ _ _ _ _)
      | (with_reducible exact ih1 _ _ _ _ _)
      | (with_reducible exact commitlog_Encode.mono _ _ _ _ _ _)
      | (with_reducible exact thermographlaw09_same.mono _ _ _)
      | (with_reducible exact thermographref09_Encode.mono _ _ _ _ _ _)
      | (with_reducible exact LeO.refl _)
      | (with_reducible exact LeO.none _)
      | (with_reducible refine LeO.ite ?_ ?_)
      | (with_reducible refine LeO.bind ?_ (fun _ => ?_))
      | exact ih0 _ _ _ _ _ _
      | exact ih1 _ _ _ _ _
      | exact commitlog_Encode.mono _ _ _ _ _ _
      | exact thermographlaw09_same.mono _ _ _
      | exact thermographref09_Encode.mono _ _ _ _ _ _
      | exact LeO.none _
      | refine LeO.ite ?_ ?_
      | refine LeO.bind ?_ (fun _ => ?_)
theorem thermographlaw09_CommitlogTorn.mono : ∀ a0 a1 k, LeO (thermographlaw09_CommitlogTorn.f k a0 a1) (thermographlaw09_CommitlogTorn.f (k + 1) a0 a1) := by
  intro a0 a1 k
  obtain ⟨ih0, ih1⟩ := thermographlaw09_CommitlogTorn.mono_l k
  unfold thermographlaw09_CommitlogTorn.f
  repeat' first
      | (with_reducible exact ih0 _ _ _ _ _ _)
      | (with_reducible exact ih1 _ _ _ _ _)
      | (with_reducible exact commitlog_Encode.mono _ _ _ _ _ _)
      | (with_reducible exact thermographlaw09_same.mono _ _ _)
      | (with_reducible exact thermographref09_Encode.mono _ _ _ _ _ _)
      | (with_reducible exact LeO.refl _)
      | (with_reducible exact LeO.none _)
      | (with_reducible refine LeO.ite ?_ ?_)
      | (with_reducible refine LeO.bind ?_ (fun _ => ?_))
      | exact ih0 _ _ _ _ _ _
      | exact ih1 _ _ _ _ _
      | exact commitlog_Encode.mono _ _ _ _ _ _
      | exact thermographlaw09_same.mono _ _ _
      | exact thermographref09_Encode.mono _ _ _ _ _ _
      | exact LeO.none _
      | refine LeO.ite ?_ ?_
      | refine LeO.bind ?_ (fun _ => ?_)
set_option maxHeartbeats 8000000 in
set_option maxRecDepth 100000 in
theorem thermographlaw09_CommitlogTorn.calls (k : Nat) (A0 : Option Addr) (c0 : Nat) (l0 : List (S32)) (a1 : Int) (r : Bool) (w : World) (hr0 : Kd.C k32 w A0 l0.length l0) (hc0 : l0.length ≤ c0) (h : thermographlaw09_CommitlogTorn.f k l0 a1 = some r) :
    Calls Try.prog 5 #[.slice A0 l0.length c0, .int .i64 a1] w fun e w' => e = .returned (.bool r) ∧ Below w.heap.size w w' := by
  have hu32 := Try.underlying32
  have HR0 := Aside0.mk hr0
  have HC0 := Aside0.mk hc0
  clear hr0 hc0
  have HB := Aside0.mk (Below.refl w.heap.size w)
  have H : (if (l0.length : Int) > 128 then (some true) else (thermographlaw09_CommitlogTorn.l0 k l0 a1 (([] : List Int)) (([0] : List Int)) (([] : List (S32))) 0)) = some r := h
  clear h
  by_cases c3 : (l0.length : Int) > 128
  · rw [if_pos c3] at H
    have c3b0 : decide (128 < (l0.length : Int)) = true := decide_eq_true c3
    have c3b1 : decide (128 < l0.length) = true := decide_eq_true (by omega)
    clear c3
    obtain rfl := Option.some.inj H
    go_enter Try.func5, Try.ntmps5
    go_wp2
    go_ret
    exact ⟨by first | rfl | (simp [errW_none, errW_some] <;> rfl) | (simp [*, errW_none, errW_some] <;> rfl), by repeat (first | (with_reducible first | exact HB.out | apply below_alloc | apply pw_below_drewN | apply below_drew1) | exact HB.out)⟩
  · rw [if_neg c3] at H
    have c3b0 : decide (128 < (l0.length : Int)) = false := decide_eq_false c3
    have c3b1 : decide (128 < l0.length) = false := decide_eq_false (by omega)
    clear c3
    obtain ⟨y305, hy305⟩ : ∃ y_ : List Int, y_ = (([] : List Int)) := ⟨_, rfl⟩
    replace H : (thermographlaw09_CommitlogTorn.l0 k l0 a1 y305 (([0] : List Int)) (([] : List (S32))) 0) = some r := by first | (rw [hy305]; with_reducible exact H) | (have H2_ := (Option.bind_some _ _).symm.trans H; rw [hy305]; with_reducible exact H2_) | (have H2_ := (Option.bind_some _ _).symm.trans H; with_reducible exact H2_) | with_reducible exact H | (rw [hy305]; exact H) | exact H
    have Ny305 := Aside0.mk hy305
    clear hy305
    obtain ⟨y308, hy308⟩ : ∃ y_ : List Int, y_ = (([0] : List Int)) := ⟨_, rfl⟩
    replace H : (thermographlaw09_CommitlogTorn.l0 k l0 a1 y305 y308 (([] : List (S32))) 0) = some r := by first | (rw [hy308]; with_reducible exact H) | (have H2_ := (Option.bind_some _ _).symm.trans H; rw [hy308]; with_reducible exact H2_) | (have H2_ := (Option.bind_some _ _).symm.trans H; with_reducible exact H2_) | with_reducible exact H | (rw [hy308]; exact H) | exact H
    have Ny308 := Aside0.mk hy308
    clear hy308
    obtain ⟨y311, hy311⟩ : ∃ y_ : List (S32), y_ = (([] : List (S32))) := ⟨_, rfl⟩
    replace H : (thermographlaw09_CommitlogTorn.l0 k l0 a1 y305 y308 y311 0) = some r := by first | (rw [hy311]; with_reducible exact H) | (have H2_ := (Option.bind_some _ _).symm.trans H; rw [hy311]; with_reducible exact H2_) | (have H2_ := (Option.bind_some _ _).symm.trans H; with_reducible exact H2_) | with_reducible exact H | (rw [hy311]; exact H) | exact H
    have Ny311 := Aside0.mk hy311
    clear hy311
    have H' := Aside0.mk H
    clear H
    go_enter Try.func5, Try.ntmps5
    go_wp2_with (first | ((with_reducible refine gate_dst (N := 19) rfl ?_); refine Kd.R_lit (Kd.int .u8) _ 5 ?hg (N := 19) ?hd (xs := ([] : List Int)) (inner := []) (ok := fun _ => True) (okp := fun _ => True) ?hr ?hp (fun _ hk => hk) trivial (Below.refl _ _) (Nat.le_refl _) (by simp) ?_; (case hd => rfl); (case hg => rfl); (case hr => first | (go_simp; done) | (go_simp; rfl)); (case hp => exact (Reps.none _ _)); intro v306 w4 ho5 hb hg_ hnew_; clear hg_ hnew_; (first | rw [← Ny305.out] at ho5 | (simp only [Int.reduceToNat] at ho5; rw [← Ny305.out] at ho5)); have n0_ := Aside0.mk (Kd.R_lower ho5 (below_size (by repeat (first | (with_reducible first | exact HB.out | apply below_alloc | apply pw_below_drewN | apply below_drew1) | exact HB.out)))); have n1_ := Aside0.mk (below_step (by repeat (first | (with_reducible first | exact HB.out | apply below_alloc | apply pw_below_drewN | apply below_drew1) | exact HB.out)) hb); clear HB; have HO307 := n0_; have HB := n1_; clear n0_ n1_; clear hb ho5) | ((with_reducible refine gate_dst (N := 20) rfl ?_); refine Kd.R_lit (Kd.int .i64) _ 3 ?hg (N := 20) ?hd (xs := ([0] : List Int)) (inner := [.int .i64 0]) (ok := fun _ => True) (okp := fun _ => True) ?hr ?hp (fun _ hk => hk) trivial (Below.refl _ _) (Nat.le_refl _) (by simp) ?_; (case hd => rfl); (case hg => rfl); (case hr => first | (go_simp; done) | (go_simp; rfl)); (case hp => exact (Reps.one (show Kd.M (Kd.int .i64) _ _ _ 0 [.int .i64 0] from rfl) (Reps.none _ _))); intro v309 w6 ho7 hb hg_ hnew_; clear hg_ hnew_; (first | rw [← Ny308.out] at ho7 | (simp only [Int.reduceToNat] at ho7; rw [← Ny308.out] at ho7)); have n0_ := Aside0.mk (Kd.R_below (by (with_reducible repeat (first | apply Kd.R_alloc | apply Kd.R_drewN | apply Kd.R_drew)); exact HO307.out) hb); have n1_ := Aside0.mk (Kd.R_lower ho7 (below_size (by repeat (first | (with_reducible first | exact HB.out | apply below_alloc | apply pw_below_drewN | apply below_drew1) | exact HB.out)))); have n2_ := Aside0.mk (below_step (by repeat (first | (with_reducible first | exact HB.out | apply below_alloc | apply pw_below_drewN | apply below_drew1) | exact HB.out)) hb); clear HO307; clear HB; have HO307 := n0_; have HO310 := n1_; have HB := n2_; clear n0_ n1_ n2_; clear hb ho7) | ((with_reducible refine gate_dst (N := 21) rfl ?_); refine Kd.R_lit k32 _ 32 ?hg (N := 21) ?hd (xs := ([] : List (S32))) (inner := []) (ok := fun _ => True) (okp := fun _ => True) ?hr ?hp (fun _ hk => hk) trivial (Below.refl _ _) (Nat.le_refl _) (by simp) ?_; (case hd => rfl); (case hg => rfl); (case hr => first | (go_simp; done) | (go_simp; rfl)); (case hp => exact (Reps.none _ _)); intro v312 w8 ho9 hb hg_ hnew_; clear hg_ hnew_; (first | rw [← Ny311.out] at ho9 | (simp only [Int.reduceToNat] at ho9; rw [← Ny311.out] at ho9)); have n0_ := Aside0.mk (Kd.R_below (by (with_reducible repeat (first | apply Kd.R_alloc | apply Kd.R_drewN | apply Kd.R_drew)); exact HO307.out) hb); have n1_ := Aside0.mk (Kd.R_below (by (with_reducible repeat (first | apply Kd.R_alloc | apply Kd.R_drewN | apply Kd.R_drew)); exact HO310.out) hb); have n2_ := Aside0.mk (Kd.R_lower ho9 (below_size (by repeat (first | (with_reducible first | exact HB.out | apply below_alloc | apply pw_below_drewN | apply below_drew1) | exact HB.out)))); have n3_ := Aside0.mk (below_step (by repeat (first | (with_reducible first | exact HB.out | apply below_alloc | apply pw_below_drewN | apply below_drew1) | exact HB.out)) hb); clear HO307; clear HO310; clear HB; have HO307 := n0_; have HO310 := n1_; have HO313 := n2_; have HB := n3_; clear n0_ n1_ n2_ n3_; clear hb ho9))
    go_loopg [5, 6, 7, 8] k (fun kq v5 v6 v7 v8 w' => ∃ (x5_1 : List Int) (x6_1 : List Int) (x7_1 : List (S32)) (x8_1 : Int), v8 = .int .i64 x8_1 ∧ Aside0 (thermographlaw09_CommitlogTorn.l0 kq l0 a1 x5_1 x6_1 x7_1 x8_1 = some r) ∧ Aside0 (kq ≤ k) ∧ Aside0 (Kd.R (Kd.int .u8) 5 w' w.heap.size (fun _ => True) v5 x5_1) ∧ Aside0 (Kd.R (Kd.int .i64) 3 w' w.heap.size (fun _ => True) v6 x6_1) ∧ Aside0 (Kd.R k32 32 w' w.heap.size (fun _ => True) v7 x7_1) ∧ Aside0 (Below w.heap.size w w'))
    case atStart => exact ⟨(y305), (y308), (y311), (0), (by first | rfl | (simp; done) | (simp [*]; done)), H', ⟨Nat.le_refl _⟩, ⟨by (with_reducible repeat (first | apply Kd.R_alloc | apply Kd.R_drewN | apply Kd.R_drew)); exact HO307.out⟩, ⟨by (with_reducible repeat (first | apply Kd.R_alloc | apply Kd.R_drewN | apply Kd.R_drew)); exact HO310.out⟩, ⟨by (with_reducible repeat (first | apply Kd.R_alloc | apply Kd.R_drewN | apply Kd.R_drew)); exact HO313.out⟩, ⟨by repeat (first | (with_reducible first | exact HB.out | apply below_alloc | apply pw_below_drewN | apply below_drew1) | exact HB.out)⟩⟩
    case round =>
      clear H'
      try clear p2
      try clear c3
      try clear c3b0
      try clear c3b1
      try clear c5
      obtain ⟨x5_1, x6_1, x7_1, x8_1, rfl, HA, HK1, HO_5, HO_6, HO_7, HB⟩ := hrel
      cases gk with
      | zero => exact absurd HA.out (by simp [thermographlaw09_CommitlogTorn.l0])
      | succ k1 =>
        have H := HA.out
        clear HA
        simp only [thermographlaw09_CommitlogTorn.l0] at H
        by_cases c10 : x8_1 < (l0.length : Int)
        · rw [if_pos c10] at H
          have c10b0 : decide (x8_1 < (l0.length : Int)) = true := decide_eq_true c10
          clear c10
          by_cases c11 : 0 ≤ x8_1
          · rw [if_pos c11] at H
            have c11b0 : decide (0 ≤ x8_1) = true := decide_eq_true c11
            clear c11
            replace H := Option.bind_eq_some_iff.mp H
            obtain ⟨⟨t315, t318⟩, A120, H⟩ := H
            replace H : ((thermographref09_Encode.f k1 ((rd_T32 l0 x8_1).f0) ((rd_T32 l0 x8_1).f1) ((rd_T32 l0 x8_1).f2.f0) ((rd_T32 l0 x8_1).f2.f1) ((rd_T32 l0 x8_1).f2.f2)).bind fun bt320 => (if t318 = bt320.2 then (if t318 = 0 then (if x5_1.length + t315.length < 140737488355328 then ((some (x5_1 ++ t315 : List Int)).bind fun y324 => (if x6_1.length < 17592186044416 then (if x7_1.length < 2932031007402 then (thermographlaw09_CommitlogTorn.l0 k1 l0 a1 y324 (x6_1 ++ [(y324.length : Int)]) (x7_1 ++ [(⟨(rd_T32 l0 x8_1).f0, (rd_T32 l0 x8_1).f1, (⟨(rd_T32 l0 x8_1).f2.f0, (rd_T32 l0 x8_1).f2.f1, (rd_T32 l0 x8_1).f2.f2⟩ : S30)⟩ : S32)]) (wrap64 (x8_1 + 1))) else (none)) else (none))) else (none)) else (thermographlaw09_CommitlogTorn.l0 k1 l0 a1 x5_1 x6_1 x7_1 (wrap64 (x8_1 + 1)))) else (some false))) = some r := H
            have A12 := Aside0.mk A120
            clear A120
            replace H := Option.bind_eq_some_iff.mp H
            obtain ⟨⟨t320, t323⟩, A130, H⟩ := H
            replace H : (if t318 = t323 then (if t318 = 0 then (if x5_1.length + t315.length < 140737488355328 then ((some (x5_1 ++ t315 : List Int)).bind fun y324 => (if x6_1.length < 17592186044416 then (if x7_1.length < 2932031007402 then (thermographlaw09_CommitlogTorn.l0 k1 l0 a1 y324 (x6_1 ++ [(y324.length : Int)]) (x7_1 ++ [(⟨(rd_T32 l0 x8_1).f0, (rd_T32 l0 x8_1).f1, (⟨(rd_T32 l0 x8_1).f2.f0, (rd_T32 l0 x8_1).f2.f1, (rd_T32 l0 x8_1).f2.f2⟩ : S30)⟩ : S32)]) (wrap64 (x8_1 + 1))) else (none)) else (none))) else (none)) else (thermographlaw09_CommitlogTorn.l0 k1 l0 a1 x5_1 x6_1 x7_1 (wrap64 (x8_1 + 1)))) else (some false)) = some r := H
            have A13 := Aside0.mk A130
            clear A130
            by_cases c14 : t318 = t323
            · rw [if_pos c14] at H
              have c14b0 : (t318 == t323) = true := beq_iff_eq.mpr c14
              have c14b1 : (t318 != t323) = false := bne_eq_false_iff_eq.mpr c14
              clear c14
              by_cases c15 : t318 = 0
              · rw [if_pos c15] at H
                have c15b0 : (t318 == 0) = true := beq_iff_eq.mpr c15
                have c15b1 : (t318 != 0) = false := bne_eq_false_iff_eq.mpr c15
                clear c15
                by_cases c16 : x5_1.length + t315.length < 140737488355328
                · rw [if_pos c16] at H
                  have LMc16 := Aside0.mk c16
                  clear c16
                  obtain ⟨y324, hy324⟩ : ∃ y_ : List Int, y_ = (x5_1 ++ t315) := ⟨_, rfl⟩
                  replace H : (if x6_1.length < 17592186044416 then (if x7_1.length < 2932031007402 then (thermographlaw09_CommitlogTorn.l0 k1 l0 a1 y324 (x6_1 ++ [(y324.length : Int)]) (x7_1 ++ [(⟨(rd_T32 l0 x8_1).f0, (rd_T32 l0 x8_1).f1, (⟨(rd_T32 l0 x8_1).f2.f0, (rd_T32 l0 x8_1).f2.f1, (rd_T32 l0 x8_1).f2.f2⟩ : S30)⟩ : S32)]) (wrap64 (x8_1 + 1))) else (none)) else (none)) = some r := by first | (rw [hy324]; with_reducible exact H) | (have H2_ := (Option.bind_some _ _).symm.trans H; rw [hy324]; with_reducible exact H2_) | (have H2_ := (Option.bind_some _ _).symm.trans H; with_reducible exact H2_) | with_reducible exact H | (rw [hy324]; exact H) | exact H
                  have Ny324 := Aside0.mk hy324
                  clear hy324
                  by_cases c17 : x6_1.length < 17592186044416
                  · rw [if_pos c17] at H
                    have LMc17 := Aside0.mk c17
                    clear c17
                    obtain ⟨y327, hy327⟩ : ∃ y_ : List Int, y_ = (x6_1 ++ [(y324.length : Int)]) := ⟨_, rfl⟩
                    replace H : (if x7_1.length < 2932031007402 then (thermographlaw09_CommitlogTorn.l0 k1 l0 a1 y324 y327 (x7_1 ++ [(⟨(rd_T32 l0 x8_1).f0, (rd_T32 l0 x8_1).f1, (⟨(rd_T32 l0 x8_1).f2.f0, (rd_T32 l0 x8_1).f2.f1, (rd_T32 l0 x8_1).f2.f2⟩ : S30)⟩ : S32)]) (wrap64 (x8_1 + 1))) else (none)) = some r := by first | (rw [hy327]; with_reducible exact H) | (have H2_ := (Option.bind_some _ _).symm.trans H; rw [hy327]; with_reducible exact H2_) | (have H2_ := (Option.bind_some _ _).symm.trans H; with_reducible exact H2_) | with_reducible exact H | (rw [hy327]; exact H) | exact H
                    have Ny327 := Aside0.mk hy327
                    clear hy327
                    by_cases c18 : x7_1.length < 2932031007402
                    · rw [if_pos c18] at H
                      have LMc18 := Aside0.mk c18
                      clear c18
                      obtain ⟨y331, hy331⟩ : ∃ y_ : List (S32), y_ = (x7_1 ++ [(⟨(rd_T32 l0 x8_1).f0, (rd_T32 l0 x8_1).f1, (⟨(rd_T32 l0 x8_1).f2.f0, (rd_T32 l0 x8_1).f2.f1, (rd_T32 l0 x8_1).f2.f2⟩ : S30)⟩ : S32)]) := ⟨_, rfl⟩
                      replace H : (thermographlaw09_CommitlogTorn.l0 k1 l0 a1 y324 y327 y331 (wrap64 (x8_1 + 1))) = some r := by first | (rw [hy331]; with_reducible exact H) | (have H2_ := (Option.bind_some _ _).symm.trans H; rw [hy331]; with_reducible exact H2_) | (have H2_ := (Option.bind_some _ _).symm.trans H; with_reducible exact H2_) | with_reducible exact H | (rw [hy331]; exact H) | exact H
                      have Ny331 := Aside0.mk hy331
                      clear hy331
                      have H' := Aside0.mk H
                      clear H
                      have p314 : 0 ≤ (x8_1 : Int) := of_decide_eq_true (by first | (with_reducible assumption) | assumption)
                      have q314 : x8_1 < (l0.length : Int) := of_decide_eq_true (by first | (with_reducible assumption) | assumption)
                      obtain ⟨ad314, e314, hx314_0, hx314_1, hx314_2, hx314_3, hx314_4⟩ := at_T32 HR0.out x8_1 p314 q314
                      cases e314
                      replace hx314_0 := (HB.out.cell (World.block_lt_of_cell? w _ hx314_0)).trans hx314_0
                      replace hx314_1 := (HB.out.cell (World.block_lt_of_cell? w _ hx314_1)).trans hx314_1
                      replace hx314_2 := (HB.out.cell (World.block_lt_of_cell? w _ hx314_2)).trans hx314_2
                      replace hx314_3 := (HB.out.cell (World.block_lt_of_cell? w _ hx314_3)).trans hx314_3
                      replace hx314_4 := (HB.out.cell (World.block_lt_of_cell? w _ hx314_4)).trans hx314_4
                      replace p314 := eq_true p314
                      replace q314 := eq_true q314
                      go_wp2_with (first | ((with_reducible refine gate_callee (f := 9) rfl ?_); refine goesL_ (some 33) rfl rfl Try.func9 (by kernel_rfl) rfl #[.agg #[.int .i64 ((rd_T32 l0 x8_1).f0), .string ((rd_T32 l0 x8_1).f1), .int .i64 ((rd_T32 l0 x8_1).f2.f0), .int .u64 ((rd_T32 l0 x8_1).f2.f1), .int .u64 ((rd_T32 l0 x8_1).f2.f2)]] rfl (by (try simp only [List.map_toArray, List.map_cons, List.map_nil]); first | done | rfl | (simp only [List.length_drop, List.length_take]; rfl)) ?_; (with_reducible refine (commitlog_Encode.calls k1 ((rd_T32 l0 x8_1).f0) ((rd_T32 l0 x8_1).f1) ((rd_T32 l0 x8_1).f2.f0) ((rd_T32 l0 x8_1).f2.f1) ((rd_T32 l0 x8_1).f2.f2) t315 t318 _ A12.out).mono ?_); rintro e w19 ⟨v316, rfl, ho0, hb⟩; refine ⟨_, rfl, ?_⟩; have n0_ := Aside0.mk (Kd.R_elder' (by (with_reducible repeat (first | apply Kd.R_alloc | apply Kd.R_drewN | apply Kd.R_drew)); exact HO_5.out) (Kd.R_base ho0) hb); have n1_ := Aside0.mk (Kd.R_below (by (with_reducible repeat (first | apply Kd.R_alloc | apply Kd.R_drewN | apply Kd.R_drew)); exact HO_6.out) hb); have n2_ := Aside0.mk (Kd.R_below (by (with_reducible repeat (first | apply Kd.R_alloc | apply Kd.R_drewN | apply Kd.R_drew)); exact HO_7.out) hb); have n3_ := Aside0.mk (Kd.R_lower (Kd.R_new' ho0 (Kd.R_lt (by (with_reducible repeat (first | apply Kd.R_alloc | apply Kd.R_drewN | apply Kd.R_drew)); exact HO_5.out))) (below_size (by repeat (first | (with_reducible first | exact HB.out | apply below_alloc | apply pw_below_drewN | apply below_drew1) | exact HB.out)))); have n4_ := Aside0.mk (below_step (by repeat (first | (with_reducible first | exact HB.out | apply below_alloc | apply pw_below_drewN | apply below_drew1) | exact HB.out)) hb); clear HO_5; clear HO_6; clear HO_7; clear HB; have HO_5 := n0_; have HO_6 := n1_; have HO_7 := n2_; have HO317 := n3_; have HB := n4_; clear n0_ n1_ n2_ n3_ n4_; (try clear hb); (try clear hb2); (try clear hk); (try clear hi); (try clear ho0); have p319 : 0 ≤ (x8_1 : Int) := of_decide_eq_true (by first | (with_reducible assumption) | assumption); have q319 : x8_1 < (l0.length : Int) := of_decide_eq_true (by first | (with_reducible assumption) | assumption); obtain ⟨ad319, e319, hx319_0, hx319_1, hx319_2, hx319_3, hx319_4⟩ := at_T32 HR0.out x8_1 p319 q319; obtain rfl : ad314 = ad319 := (by injection e319); replace hx319_0 := (HB.out.cell (World.block_lt_of_cell? w _ hx319_0)).trans hx319_0; replace hx319_1 := (HB.out.cell (World.block_lt_of_cell? w _ hx319_1)).trans hx319_1; replace hx319_2 := (HB.out.cell (World.block_lt_of_cell? w _ hx319_2)).trans hx319_2; replace hx319_3 := (HB.out.cell (World.block_lt_of_cell? w _ hx319_3)).trans hx319_3; replace hx319_4 := (HB.out.cell (World.block_lt_of_cell? w _ hx319_4)).trans hx319_4; replace p319 := eq_true p319; replace q319 := eq_true q319) | ((with_reducible refine gate_callee (f := 10) rfl ?_); refine goesL_ (some 41) rfl rfl Try.func10 (by kernel_rfl) rfl #[.agg #[.int .i64 ((rd_T32 l0 x8_1).f0), .string ((rd_T32 l0 x8_1).f1), .int .i64 ((rd_T32 l0 x8_1).f2.f0), .int .u64 ((rd_T32 l0 x8_1).f2.f1), .int .u64 ((rd_T32 l0 x8_1).f2.f2)]] rfl (by (try simp only [List.map_toArray, List.map_cons, List.map_nil]); first | done | rfl | (simp only [List.length_drop, List.length_take]; rfl)) ?_; (with_reducible refine (thermographref09_Encode.calls k1 ((rd_T32 l0 x8_1).f0) ((rd_T32 l0 x8_1).f1) ((rd_T32 l0 x8_1).f2.f0) ((rd_T32 l0 x8_1).f2.f1) ((rd_T32 l0 x8_1).f2.f2) t320 t323 _ A13.out).mono ?_); rintro e w20 ⟨v321, rfl, ho0, hb⟩; refine ⟨_, rfl, ?_⟩; have n0_ := Aside0.mk (Kd.R_elder' (by (with_reducible repeat (first | apply Kd.R_alloc | apply Kd.R_drewN | apply Kd.R_drew)); exact HO_5.out) (Kd.R_base ho0) hb); have n1_ := Aside0.mk (Kd.R_below (by (with_reducible repeat (first | apply Kd.R_alloc | apply Kd.R_drewN | apply Kd.R_drew)); exact HO_6.out) hb); have n2_ := Aside0.mk (Kd.R_below (by (with_reducible repeat (first | apply Kd.R_alloc | apply Kd.R_drewN | apply Kd.R_drew)); exact HO_7.out) hb); have n3_ := Aside0.mk (Kd.R_elder' (by (with_reducible repeat (first | apply Kd.R_alloc | apply Kd.R_drewN | apply Kd.R_drew)); exact HO317.out) (Kd.R_base ho0) hb); have n4_ := Aside0.mk (Kd.R_lower (Kd.R_new' (Kd.R_new' ho0 (Kd.R_lt (by (with_reducible repeat (first | apply Kd.R_alloc | apply Kd.R_drewN | apply Kd.R_drew)); exact HO_5.out))) (Kd.R_lt (by (with_reducible repeat (first | apply Kd.R_alloc | apply Kd.R_drewN | apply Kd.R_drew)); exact HO317.out))) (below_size (by repeat (first | (with_reducible first | exact HB.out | apply below_alloc | apply pw_below_drewN | apply below_drew1) | exact HB.out)))); have n5_ := Aside0.mk (below_step (by repeat (first | (with_reducible first | exact HB.out | apply below_alloc | apply pw_below_drewN | apply below_drew1) | exact HB.out)) hb); clear HO_5; clear HO_6; clear HO_7; clear HO317; clear HB; have HO_5 := n0_; have HO_6 := n1_; have HO_7 := n2_; have HO317 := n3_; have HO322 := n4_; have HB := n5_; clear n0_ n1_ n2_ n3_ n4_ n5_; (try clear hb); (try clear hb2); (try clear hk); (try clear hi); (try clear ho0); obtain ⟨Ao22, co22, eo22⟩ := Kd.R_slice HO317.out; subst eo22) | ((with_reducible refine gate_builtin (b := .append) (xs := #[.tmp 49, .tmp 50]) rfl ?_); at_builtin; refine Kd.R_append_rows (Kd.int .u8) (w0 := w) w.heap.size rfl (.tmp 49) (.tmp 50) 22 5 (.int .u8 0) 1 rfl Try.underlying22 info5 rfl (by decide) (by omega) u5 x5_1 t315 _ _ _ (fun k_ => some k_ ≠ (.slice Ao22 t315.length co22 : Value).ownBlock ∧ some k_ ≠ (v321 : Value).ownBlock) (fun _ => False) rfl rfl ?aO ?aR (fun _ _ h => h) (fun _ h => h.elim) ?aF ?aB ?aS ?aL ?_; (case aR => repeat (first | exact (Kd.R_reads' HO317.out).2.2 | (with_reducible refine Kd.C_alloc ?_ _) | (with_reducible refine Kd.C_drewN ?_ _) | (with_reducible refine Kd.C_drew ?_))); (case aB => exact (by repeat (first | (with_reducible first | exact HB.out | apply below_alloc | apply pw_below_drewN | apply below_drew1) | exact HB.out))); (case aF => exact (fun k_ hk => ⟨Kd.fresh' (Kd.R_lt (by (with_reducible repeat (first | apply Kd.R_alloc | apply Kd.R_drewN | apply Kd.R_drew)); exact HO317.out)) k_ hk, Kd.fresh' (Kd.R_lt (by (with_reducible repeat (first | apply Kd.R_alloc | apply Kd.R_drewN | apply Kd.R_drew)); exact HO322.out)) k_ hk⟩)); (case aO => exact (by (with_reducible repeat (first | apply Kd.R_alloc | apply Kd.R_drewN | apply Kd.R_drew)); exact Kd.R_mono HO_5.out (fun _ hk => ⟨hk.1.2, hk.2⟩))); (case aS => exact (below_size (by repeat (first | (with_reducible first | exact HB.out | apply below_alloc | apply pw_below_drewN | apply below_drew1) | exact HB.out)))); (case aL => have := LMc16.out; omega); intro v325 w21 ho hb hg hat; rw [← Ny324.out] at ho; have n0_ := Aside0.mk (Kd.R_over' (by (with_reducible repeat (first | apply Kd.R_alloc | apply Kd.R_drewN | apply Kd.R_drew)); exact HO_6.out) (Kd.R_typed (by (with_reducible repeat (first | apply Kd.R_alloc | apply Kd.R_drewN | apply Kd.R_drew)); exact HO_5.out)) (by decide) hg); have n1_ := Aside0.mk (Kd.R_over' (by (with_reducible repeat (first | apply Kd.R_alloc | apply Kd.R_drewN | apply Kd.R_drew)); exact HO_7.out) (Kd.R_typed (by (with_reducible repeat (first | apply Kd.R_alloc | apply Kd.R_drewN | apply Kd.R_drew)); exact HO_5.out)) (by decide) hg); have n2_ := Aside0.mk (Kd.R_after (ok := (fun k_ => some k_ ≠ (v321 : Value).ownBlock)) (by (with_reducible repeat (first | apply Kd.R_alloc | apply Kd.R_drewN | apply Kd.R_drew)); exact Kd.R_mono HO317.out (fun _ hk => ⟨hk.2, hk.1.2⟩)) hg hat); have n3_ := Aside0.mk (Kd.R_after (ok := (fun k_ => some k_ ≠ (.slice Ao22 t315.length co22 : Value).ownBlock)) (by (with_reducible repeat (first | apply Kd.R_alloc | apply Kd.R_drewN | apply Kd.R_drew)); exact Kd.R_mono HO322.out (fun _ hk => ⟨hk.2, hk.1.2⟩)) hg hat); have n4_ := Aside0.mk (hb); have n5_ := Aside0.mk (ho); clear HO_6; clear HO_7; clear HO317; clear HO322; clear HB; clear HO_5; have HO_6 := n0_; have HO_7 := n1_; have HO317 := n2_; have HO322 := n3_; have HB := n4_; have HO326 := n5_; clear n0_ n1_ n2_ n3_ n4_ n5_; clear ho hb hg hat; obtain ⟨Ao23, co23, eo23⟩ := Kd.R_slice HO326.out; subst eo23) | ((with_reducible refine gate_builtin (b := .append) (xs := #[.tmp 52, .tmp 55]) rfl ?_); at_builtin; refine Kd.R_append (Kd.int .i64) (w0 := w) w.heap.size rfl (.tmp 52) (.tmp 55) 37 3 (.int .i64 0) 8 rfl Try.underlying37 info3 rfl (by decide) (by omega) u6 x6_1 (y324.length : Int) [.int .i64 (y324.length : Int)] (fun _ => True) (fun _ => False) rfl rfl ?aP (fun _ hk => hk.elim) ?aF ?aO ?aB ?aS ?aL ?_; (case aP => exact rfl); (case aB => exact (by repeat (first | (with_reducible first | exact HB.out | apply below_alloc | apply pw_below_drewN | apply below_drew1) | exact HB.out))); (case aF => exact (fun _ _ => trivial)); (case aO => exact (by (with_reducible repeat (first | apply Kd.R_alloc | apply Kd.R_drewN | apply Kd.R_drew)); exact HO_6.out)); (case aS => exact (below_size (by repeat (first | (with_reducible first | exact HB.out | apply below_alloc | apply pw_below_drewN | apply below_drew1) | exact HB.out)))); (case aL => have := LMc17.out; omega); intro v328 w24 ho hb hg hat; rw [← Ny327.out] at ho; have n0_ := Aside0.mk (Kd.R_over' (by (with_reducible repeat (first | apply Kd.R_alloc | apply Kd.R_drewN | apply Kd.R_drew)); exact HO_7.out) (Kd.R_typed (by (with_reducible repeat (first | apply Kd.R_alloc | apply Kd.R_drewN | apply Kd.R_drew)); exact HO_6.out)) (by decide) hg); have n1_ := Aside0.mk (Kd.R_over' (by (with_reducible repeat (first | apply Kd.R_alloc | apply Kd.R_drewN | apply Kd.R_drew)); exact HO317.out) (Kd.R_typed (by (with_reducible repeat (first | apply Kd.R_alloc | apply Kd.R_drewN | apply Kd.R_drew)); exact HO_6.out)) (by decide) hg); have n2_ := Aside0.mk (Kd.R_over' (by (with_reducible repeat (first | apply Kd.R_alloc | apply Kd.R_drewN | apply Kd.R_drew)); exact HO322.out) (Kd.R_typed (by (with_reducible repeat (first | apply Kd.R_alloc | apply Kd.R_drewN | apply Kd.R_drew)); exact HO_6.out)) (by decide) hg); have n3_ := Aside0.mk (Kd.R_over' (by (with_reducible repeat (first | apply Kd.R_alloc | apply Kd.R_drewN | apply Kd.R_drew)); exact HO326.out) (Kd.R_typed (by (with_reducible repeat (first | apply Kd.R_alloc | apply Kd.R_drewN | apply Kd.R_drew)); exact HO_6.out)) (by decide) hg); have n4_ := Aside0.mk (hb); have n5_ := Aside0.mk (ho); clear HO_7; clear HO317; clear HO322; clear HO326; clear HB; clear HO_6; have HO_7 := n0_; have HO317 := n1_; have HO322 := n2_; have HO326 := n3_; have HB := n4_; have HO329 := n5_; clear n0_ n1_ n2_ n3_ n4_ n5_; clear ho hb hg hat; have p330 : 0 ≤ (x8_1 : Int) := of_decide_eq_true (by first | (with_reducible assumption) | assumption); have q330 : x8_1 < (l0.length : Int) := of_decide_eq_true (by first | (with_reducible assumption) | assumption); obtain ⟨ad330, e330, hx330_0, hx330_1, hx330_2, hx330_3, hx330_4⟩ := at_T32 HR0.out x8_1 p330 q330; obtain rfl : ad314 = ad330 := (by injection e330); replace hx330_0 := (HB.out.cell (World.block_lt_of_cell? w _ hx330_0)).trans hx330_0; replace hx330_1 := (HB.out.cell (World.block_lt_of_cell? w _ hx330_1)).trans hx330_1; replace hx330_2 := (HB.out.cell (World.block_lt_of_cell? w _ hx330_2)).trans hx330_2; replace hx330_3 := (HB.out.cell (World.block_lt_of_cell? w _ hx330_3)).trans hx330_3; replace hx330_4 := (HB.out.cell (World.block_lt_of_cell? w _ hx330_4)).trans hx330_4; replace p330 := eq_true p330; replace q330 := eq_true q330) | ((with_reducible refine gate_builtin (b := .append) (xs := #[.tmp 57, .tmp 62]) rfl ?_); at_builtin; refine Kd.R_append k32 (w0 := w) w.heap.size rfl (.tmp 57) (.tmp 62) 23 32 (.agg #[(.int .i64 0), (.string ⟨#[]⟩), (.int .i64 0), (.int .u64 0), (.int .u64 0)]) 48 rfl Try.underlying23 info32 rfl (by decide) (by omega) u7 x7_1 (⟨(rd_T32 l0 x8_1).f0, (rd_T32 l0 x8_1).f1, (⟨(rd_T32 l0 x8_1).f2.f0, (rd_T32 l0 x8_1).f2.f1, (rd_T32 l0 x8_1).f2.f2⟩ : S30)⟩ : S32) [.int .i64 ((rd_T32 l0 x8_1).f0), .string ((rd_T32 l0 x8_1).f1), .int .i64 ((rd_T32 l0 x8_1).f2.f0), .int .u64 ((rd_T32 l0 x8_1).f2.f1), .int .u64 ((rd_T32 l0 x8_1).f2.f2)] (fun _ => True) (fun _ => False) rfl rfl ?aP (fun _ hk => hk.elim) ?aF ?aO ?aB ?aS ?aL ?_; (case aP => exact k32_mkM _ _ _ (⟨(rd_T32 l0 x8_1).f0, (rd_T32 l0 x8_1).f1, (⟨(rd_T32 l0 x8_1).f2.f0, (rd_T32 l0 x8_1).f2.f1, (rd_T32 l0 x8_1).f2.f2⟩ : S30)⟩ : S32)); (case aB => exact (by repeat (first | (with_reducible first | exact HB.out | apply below_alloc | apply pw_below_drewN | apply below_drew1) | exact HB.out))); (case aF => exact (fun _ _ => trivial)); (case aO => exact (by (with_reducible repeat (first | apply Kd.R_alloc | apply Kd.R_drewN | apply Kd.R_drew)); exact HO_7.out)); (case aS => exact (below_size (by repeat (first | (with_reducible first | exact HB.out | apply below_alloc | apply pw_below_drewN | apply below_drew1) | exact HB.out)))); (case aL => have := LMc18.out; omega); intro v332 w25 ho hb hg hat; rw [← Ny331.out] at ho; have n0_ := Aside0.mk (Kd.R_over' (by (with_reducible repeat (first | apply Kd.R_alloc | apply Kd.R_drewN | apply Kd.R_drew)); exact HO317.out) (Kd.R_typed (by (with_reducible repeat (first | apply Kd.R_alloc | apply Kd.R_drewN | apply Kd.R_drew)); exact HO_7.out)) (by decide) hg); have n1_ := Aside0.mk (Kd.R_over' (by (with_reducible repeat (first | apply Kd.R_alloc | apply Kd.R_drewN | apply Kd.R_drew)); exact HO322.out) (Kd.R_typed (by (with_reducible repeat (first | apply Kd.R_alloc | apply Kd.R_drewN | apply Kd.R_drew)); exact HO_7.out)) (by decide) hg); have n2_ := Aside0.mk (Kd.R_over' (by (with_reducible repeat (first | apply Kd.R_alloc | apply Kd.R_drewN | apply Kd.R_drew)); exact HO326.out) (Kd.R_typed (by (with_reducible repeat (first | apply Kd.R_alloc | apply Kd.R_drewN | apply Kd.R_drew)); exact HO_7.out)) (by decide) hg); have n3_ := Aside0.mk (Kd.R_over' (by (with_reducible repeat (first | apply Kd.R_alloc | apply Kd.R_drewN | apply Kd.R_drew)); exact HO329.out) (Kd.R_typed (by (with_reducible repeat (first | apply Kd.R_alloc | apply Kd.R_drewN | apply Kd.R_drew)); exact HO_7.out)) (by decide) hg); have n4_ := Aside0.mk (hb); have n5_ := Aside0.mk (ho); clear HO317; clear HO322; clear HO326; clear HO329; clear HB; clear HO_7; have HO317 := n0_; have HO322 := n1_; have HO326 := n2_; have HO329 := n3_; have HB := n4_; have HO333 := n5_; clear n0_ n1_ n2_ n3_ n4_ n5_; clear ho hb hg hat))
                      go_roundg k1
                      case measure => have := HK1.out; omega
                      case rel => exact ⟨(y324), (y327), (y331), (wrap64 (x8_1 + 1)), (by first | rfl | (simp; done) | (simp [*]; done)), H', ⟨by have := HK1.out; omega⟩, ⟨by (with_reducible repeat (first | apply Kd.R_alloc | apply Kd.R_drewN | apply Kd.R_drew)); exact Kd.R_mono HO326.out (fun _ hk => trivial)⟩, ⟨by (with_reducible repeat (first | apply Kd.R_alloc | apply Kd.R_drewN | apply Kd.R_drew)); exact HO329.out⟩, ⟨by (with_reducible repeat (first | apply Kd.R_alloc | apply Kd.R_drewN | apply Kd.R_drew)); exact HO333.out⟩, ⟨by repeat (first | (with_reducible first | exact HB.out | apply below_alloc | apply pw_below_drewN | apply below_drew1) | exact HB.out)⟩⟩
                    · rw [if_neg c18] at H
                      exact absurd H (by simp)
                  · rw [if_neg c17] at H
                    exact absurd H (by simp)
                · rw [if_neg c16] at H
                  exact absurd H (by simp)
              · rw [if_neg c15] at H
                have c15b0 : (t318 == 0) = false := beq_eq_false_iff_ne.mpr c15
                have c15b1 : (t318 != 0) = true := bne_iff_ne.mpr c15
                have H' := Aside0.mk H
                clear H
                have p314 : 0 ≤ (x8_1 : Int) := of_decide_eq_true (by first | (with_reducible assumption) | assumption)
                have q314 : x8_1 < (l0.length : Int) := of_decide_eq_true (by first | (with_reducible assumption) | assumption)
                obtain ⟨ad314, e314, hx314_0, hx314_1, hx314_2, hx314_3, hx314_4⟩ := at_T32 HR0.out x8_1 p314 q314
                cases e314
                replace hx314_0 := (HB.out.cell (World.block_lt_of_cell? w _ hx314_0)).trans hx314_0
                replace hx314_1 := (HB.out.cell (World.block_lt_of_cell? w _ hx314_1)).trans hx314_1
                replace hx314_2 := (HB.out.cell (World.block_lt_of_cell? w _ hx314_2)).trans hx314_2
                replace hx314_3 := (HB.out.cell (World.block_lt_of_cell? w _ hx314_3)).trans hx314_3
                replace hx314_4 := (HB.out.cell (World.block_lt_of_cell? w _ hx314_4)).trans hx314_4
                replace p314 := eq_true p314
                replace q314 := eq_true q314
                go_wp2_with (first | ((with_reducible refine gate_callee (f := 9) rfl ?_); refine goesL_ (some 33) rfl rfl Try.func9 (by kernel_rfl) rfl #[.agg #[.int .i64 ((rd_T32 l0 x8_1).f0), .string ((rd_T32 l0 x8_1).f1), .int .i64 ((rd_T32 l0 x8_1).f2.f0), .int .u64 ((rd_T32 l0 x8_1).f2.f1), .int .u64 ((rd_T32 l0 x8_1).f2.f2)]] rfl (by (try simp only [List.map_toArray, List.map_cons, List.map_nil]); first | done | rfl | (simp only [List.length_drop, List.length_take]; rfl)) ?_; (with_reducible refine (commitlog_Encode.calls k1 ((rd_T32 l0 x8_1).f0) ((rd_T32 l0 x8_1).f1) ((rd_T32 l0 x8_1).f2.f0) ((rd_T32 l0 x8_1).f2.f1) ((rd_T32 l0 x8_1).f2.f2) t315 t318 _ A12.out).mono ?_); rintro e w26 ⟨v316, rfl, ho0, hb⟩; refine ⟨_, rfl, ?_⟩; have n0_ := Aside0.mk (Kd.R_elder' (by (with_reducible repeat (first | apply Kd.R_alloc | apply Kd.R_drewN | apply Kd.R_drew)); exact HO_5.out) (Kd.R_base ho0) hb); have n1_ := Aside0.mk (Kd.R_below (by (with_reducible repeat (first | apply Kd.R_alloc | apply Kd.R_drewN | apply Kd.R_drew)); exact HO_6.out) hb); have n2_ := Aside0.mk (Kd.R_below (by (with_reducible repeat (first | apply Kd.R_alloc | apply Kd.R_drewN | apply Kd.R_drew)); exact HO_7.out) hb); have n3_ := Aside0.mk (Kd.R_lower (Kd.R_new' ho0 (Kd.R_lt (by (with_reducible repeat (first | apply Kd.R_alloc | apply Kd.R_drewN | apply Kd.R_drew)); exact HO_5.out))) (below_size (by repeat (first | (with_reducible first | exact HB.out | apply below_alloc | apply pw_below_drewN | apply below_drew1) | exact HB.out)))); have n4_ := Aside0.mk (below_step (by repeat (first | (with_reducible first | exact HB.out | apply below_alloc | apply pw_below_drewN | apply below_drew1) | exact HB.out)) hb); clear HO_5; clear HO_6; clear HO_7; clear HB; have HO_5 := n0_; have HO_6 := n1_; have HO_7 := n2_; have HO317 := n3_; have HB := n4_; clear n0_ n1_ n2_ n3_ n4_; (try clear hb); (try clear hb2); (try clear hk); (try clear hi); (try clear ho0); have p319 : 0 ≤ (x8_1 : Int) := of_decide_eq_true (by first | (with_reducible assumption) | assumption); have q319 : x8_1 < (l0.length : Int) := of_decide_eq_true (by first | (with_reducible assumption) | assumption); obtain ⟨ad319, e319, hx319_0, hx319_1, hx319_2, hx319_3, hx319_4⟩ := at_T32 HR0.out x8_1 p319 q319; obtain rfl : ad314 = ad319 := (by injection e319); replace hx319_0 := (HB.out.cell (World.block_lt_of_cell? w _ hx319_0)).trans hx319_0; replace hx319_1 := (HB.out.cell (World.block_lt_of_cell? w _ hx319_1)).trans hx319_1; replace hx319_2 := (HB.out.cell (World.block_lt_of_cell? w _ hx319_2)).trans hx319_2; replace hx319_3 := (HB.out.cell (World.block_lt_of_cell? w _ hx319_3)).trans hx319_3; replace hx319_4 := (HB.out.cell (World.block_lt_of_cell? w _ hx319_4)).trans hx319_4; replace p319 := eq_true p319; replace q319 := eq_true q319) | ((with_reducible refine gate_callee (f := 10) rfl ?_); refine goesL_ (some 41) rfl rfl Try.func10 (by kernel_rfl) rfl #[.agg #[.int .i64 ((rd_T32 l0 x8_1).f0), .string ((rd_T32 l0 x8_1).f1), .int .i64 ((rd_T32 l0 x8_1).f2.f0), .int .u64 ((rd_T32 l0 x8_1).f2.f1), .int .u64 ((rd_T32 l0 x8_1).f2.f2)]] rfl (by (try simp only [List.map_toArray, List.map_cons, List.map_nil]); first | done | rfl | (simp only [List.length_drop, List.length_take]; rfl)) ?_; (with_reducible refine (thermographref09_Encode.calls k1 ((rd_T32 l0 x8_1).f0) ((rd_T32 l0 x8_1).f1) ((rd_T32 l0 x8_1).f2.f0) ((rd_T32 l0 x8_1).f2.f1) ((rd_T32 l0 x8_1).f2.f2) t320 t323 _ A13.out).mono ?_); rintro e w27 ⟨v321, rfl, ho0, hb⟩; refine ⟨_, rfl, ?_⟩; have n0_ := Aside0.mk (Kd.R_elder' (by (with_reducible repeat (first | apply Kd.R_alloc | apply Kd.R_drewN | apply Kd.R_drew)); exact HO_5.out) (Kd.R_base ho0) hb); have n1_ := Aside0.mk (Kd.R_below (by (with_reducible repeat (first | apply Kd.R_alloc | apply Kd.R_drewN | apply Kd.R_drew)); exact HO_6.out) hb); have n2_ := Aside0.mk (Kd.R_below (by (with_reducible repeat (first | apply Kd.R_alloc | apply Kd.R_drewN | apply Kd.R_drew)); exact HO_7.out) hb); have n3_ := Aside0.mk (Kd.R_elder' (by (with_reducible repeat (first | apply Kd.R_alloc | apply Kd.R_drewN | apply Kd.R_drew)); exact HO317.out) (Kd.R_base ho0) hb); have n4_ := Aside0.mk (Kd.R_lower (Kd.R_new' (Kd.R_new' ho0 (Kd.R_lt (by (with_reducible repeat (first | apply Kd.R_alloc | apply Kd.R_drewN | apply Kd.R_drew)); exact HO_5.out))) (Kd.R_lt (by (with_reducible repeat (first | apply Kd.R_alloc | apply Kd.R_drewN | apply Kd.R_drew)); exact HO317.out))) (below_size (by repeat (first | (with_reducible first | exact HB.out | apply below_alloc | apply pw_below_drewN | apply below_drew1) | exact HB.out)))); have n5_ := Aside0.mk (below_step (by repeat (first | (with_reducible first | exact HB.out | apply below_alloc | apply pw_below_drewN | apply below_drew1) | exact HB.out)) hb); clear HO_5; clear HO_6; clear HO_7; clear HO317; clear HB; have HO_5 := n0_; have HO_6 := n1_; have HO_7 := n2_; have HO317 := n3_; have HO322 := n4_; have HB := n5_; clear n0_ n1_ n2_ n3_ n4_ n5_; (try clear hb); (try clear hb2); (try clear hk); (try clear hi); (try clear ho0)))
                go_roundg k1
                case measure => have := HK1.out; omega
                case rel => exact ⟨(x5_1), (x6_1), (x7_1), (wrap64 (x8_1 + 1)), (by first | rfl | (simp; done) | (simp [*]; done)), H', ⟨by have := HK1.out; omega⟩, ⟨by (with_reducible repeat (first | apply Kd.R_alloc | apply Kd.R_drewN | apply Kd.R_drew)); exact Kd.R_mono HO_5.out (fun _ hk => trivial)⟩, ⟨by (with_reducible repeat (first | apply Kd.R_alloc | apply Kd.R_drewN | apply Kd.R_drew)); exact HO_6.out⟩, ⟨by (with_reducible repeat (first | apply Kd.R_alloc | apply Kd.R_drewN | apply Kd.R_drew)); exact HO_7.out⟩, ⟨by repeat (first | (with_reducible first | exact HB.out | apply below_alloc | apply pw_below_drewN | apply below_drew1) | exact HB.out)⟩⟩
            · rw [if_neg c14] at H
              have c14b0 : (t318 == t323) = false := beq_eq_false_iff_ne.mpr c14
              have c14b1 : (t318 != t323) = true := bne_iff_ne.mpr c14
              obtain rfl := Option.some.inj H
              have p314 : 0 ≤ (x8_1 : Int) := of_decide_eq_true (by first | (with_reducible assumption) | assumption)
              have q314 : x8_1 < (l0.length : Int) := of_decide_eq_true (by first | (with_reducible assumption) | assumption)
              obtain ⟨ad314, e314, hx314_0, hx314_1, hx314_2, hx314_3, hx314_4⟩ := at_T32 HR0.out x8_1 p314 q314
              cases e314
              replace hx314_0 := (HB.out.cell (World.block_lt_of_cell? w _ hx314_0)).trans hx314_0
              replace hx314_1 := (HB.out.cell (World.block_lt_of_cell? w _ hx314_1)).trans hx314_1
              replace hx314_2 := (HB.out.cell (World.block_lt_of_cell? w _ hx314_2)).trans hx314_2
              replace hx314_3 := (HB.out.cell (World.block_lt_of_cell? w _ hx314_3)).trans hx314_3
              replace hx314_4 := (HB.out.cell (World.block_lt_of_cell? w _ hx314_4)).trans hx314_4
              replace p314 := eq_true p314
              replace q314 := eq_true q314
              go_wp2_with (first | ((with_reducible refine gate_callee (f := 9) rfl ?_); refine goesL_ (some 33) rfl rfl Try.func9 (by kernel_rfl) rfl #[.agg #[.int .i64 ((rd_T32 l0 x8_1).f0), .string ((rd_T32 l0 x8_1).f1), .int .i64 ((rd_T32 l0 x8_1).f2.f0), .int .u64 ((rd_T32 l0 x8_1).f2.f1), .int .u64 ((rd_T32 l0 x8_1).f2.f2)]] rfl (by (try simp only [List.map_toArray, List.map_cons, List.map_nil]); first | done | rfl | (simp only [List.length_drop, List.length_take]; rfl)) ?_; (with_reducible refine (commitlog_Encode.calls k1 ((rd_T32 l0 x8_1).f0) ((rd_T32 l0 x8_1).f1) ((rd_T32 l0 x8_1).f2.f0) ((rd_T32 l0 x8_1).f2.f1) ((rd_T32 l0 x8_1).f2.f2) t315 t318 _ A12.out).mono ?_); rintro e w28 ⟨v316, rfl, ho0, hb⟩; refine ⟨_, rfl, ?_⟩; have n0_ := Aside0.mk (Kd.R_elder' (by (with_reducible repeat (first | apply Kd.R_alloc | apply Kd.R_drewN | apply Kd.R_drew)); exact HO_5.out) (Kd.R_base ho0) hb); have n1_ := Aside0.mk (Kd.R_below (by (with_reducible repeat (first | apply Kd.R_alloc | apply Kd.R_drewN | apply Kd.R_drew)); exact HO_6.out) hb); have n2_ := Aside0.mk (Kd.R_below (by (with_reducible repeat (first | apply Kd.R_alloc | apply Kd.R_drewN | apply Kd.R_drew)); exact HO_7.out) hb); have n3_ := Aside0.mk (Kd.R_lower (Kd.R_new' ho0 (Kd.R_lt (by (with_reducible repeat (first | apply Kd.R_alloc | apply Kd.R_drewN | apply Kd.R_drew)); exact HO_5.out))) (below_size (by repeat (first | (with_reducible first | exact HB.out | apply below_alloc | apply pw_below_drewN | apply below_drew1) | exact HB.out)))); have n4_ := Aside0.mk (below_step (by repeat (first | (with_reducible first | exact HB.out | apply below_alloc | apply pw_below_drewN | apply below_drew1) | exact HB.out)) hb); clear HO_5; clear HO_6; clear HO_7; clear HB; have HO_5 := n0_; have HO_6 := n1_; have HO_7 := n2_; have HO317 := n3_; have HB := n4_; clear n0_ n1_ n2_ n3_ n4_; (try clear hb); (try clear hb2); (try clear hk); (try clear hi); (try clear ho0); have p319 : 0 ≤ (x8_1 : Int) := of_decide_eq_true (by first | (with_reducible assumption) | assumption); have q319 : x8_1 < (l0.length : Int) := of_decide_eq_true (by first | (with_reducible assumption) | assumption); obtain ⟨ad319, e319, hx319_0, hx319_1, hx319_2, hx319_3, hx319_4⟩ := at_T32 HR0.out x8_1 p319 q319; obtain rfl : ad314 = ad319 := (by injection e319); replace hx319_0 := (HB.out.cell (World.block_lt_of_cell? w _ hx319_0)).trans hx319_0; replace hx319_1 := (HB.out.cell (World.block_lt_of_cell? w _ hx319_1)).trans hx319_1; replace hx319_2 := (HB.out.cell (World.block_lt_of_cell? w _ hx319_2)).trans hx319_2; replace hx319_3 := (HB.out.cell (World.block_lt_of_cell? w _ hx319_3)).trans hx319_3; replace hx319_4 := (HB.out.cell (World.block_lt_of_cell? w _ hx319_4)).trans hx319_4; replace p319 := eq_true p319; replace q319 := eq_true q319) | ((with_reducible refine gate_callee (f := 10) rfl ?_); refine goesL_ (some 41) rfl rfl Try.func10 (by kernel_rfl) rfl #[.agg #[.int .i64 ((rd_T32 l0 x8_1).f0), .string ((rd_T32 l0 x8_1).f1), .int .i64 ((rd_T32 l0 x8_1).f2.f0), .int .u64 ((rd_T32 l0 x8_1).f2.f1), .int .u64 ((rd_T32 l0 x8_1).f2.f2)]] rfl (by (try simp only [List.map_toArray, List.map_cons, List.map_nil]); first | done | rfl | (simp only [List.length_drop, List.length_take]; rfl)) ?_; (with_reducible refine (thermographref09_Encode.calls k1 ((rd_T32 l0 x8_1).f0) ((rd_T32 l0 x8_1).f1) ((rd_T32 l0 x8_1).f2.f0) ((rd_T32 l0 x8_1).f2.f1) ((rd_T32 l0 x8_1).f2.f2) t320 t323 _ A13.out).mono ?_); rintro e w29 ⟨v321, rfl, ho0, hb⟩; refine ⟨_, rfl, ?_⟩; have n0_ := Aside0.mk (Kd.R_elder' (by (with_reducible repeat (first | apply Kd.R_alloc | apply Kd.R_drewN | apply Kd.R_drew)); exact HO_5.out) (Kd.R_base ho0) hb); have n1_ := Aside0.mk (Kd.R_below (by (with_reducible repeat (first | apply Kd.R_alloc | apply Kd.R_drewN | apply Kd.R_drew)); exact HO_6.out) hb); have n2_ := Aside0.mk (Kd.R_below (by (with_reducible repeat (first | apply Kd.R_alloc | apply Kd.R_drewN | apply Kd.R_drew)); exact HO_7.out) hb); have n3_ := Aside0.mk (Kd.R_elder' (by (with_reducible repeat (first | apply Kd.R_alloc | apply Kd.R_drewN | apply Kd.R_drew)); exact HO317.out) (Kd.R_base ho0) hb); have n4_ := Aside0.mk (Kd.R_lower (Kd.R_new' (Kd.R_new' ho0 (Kd.R_lt (by (with_reducible repeat (first | apply Kd.R_alloc | apply Kd.R_drewN | apply Kd.R_drew)); exact HO_5.out))) (Kd.R_lt (by (with_reducible repeat (first | apply Kd.R_alloc | apply Kd.R_drewN | apply Kd.R_drew)); exact HO317.out))) (below_size (by repeat (first | (with_reducible first | exact HB.out | apply below_alloc | apply pw_below_drewN | apply below_drew1) | exact HB.out)))); have n5_ := Aside0.mk (below_step (by repeat (first | (with_reducible first | exact HB.out | apply below_alloc | apply pw_below_drewN | apply below_drew1) | exact HB.out)) hb); clear HO_5; clear HO_6; clear HO_7; clear HO317; clear HB; have HO_5 := n0_; have HO_6 := n1_; have HO_7 := n2_; have HO317 := n3_; have HO322 := n4_; have HB := n5_; clear n0_ n1_ n2_ n3_ n4_ n5_; (try clear hb); (try clear hb2); (try clear hk); (try clear hi); (try clear ho0)))
              go_ret
              exact ⟨by first | rfl | (simp [errW_none, errW_some] <;> rfl) | (simp [*, errW_none, errW_some] <;> rfl), by repeat (first | (with_reducible first | exact HB.out | apply below_alloc | apply pw_below_drewN | apply below_drew1) | exact HB.out)⟩
          · rw [if_neg c11] at H
            exact absurd H (by simp)
        · rw [if_neg c10] at H
          have c10b0 : decide (x8_1 < (l0.length : Int)) = false := decide_eq_false c10
          clear c10
          by_cases c30 : (wrap64 ((x5_1.length : Int) + 1)) = 0
          · rw [if_pos c30] at H
            exact absurd H (by simp)
          · rw [if_neg c30] at H
            have c30b0 : ((wrap64 ((x5_1.length : Int) + 1)) == 0) = false := beq_eq_false_iff_ne.mpr c30
            have c30b1 : ((wrap64 ((x5_1.length : Int) + 1)) != 0) = true := bne_iff_ne.mpr c30
            have H' := Aside0.mk H
            clear H
            obtain ⟨Ao31, co31, eo31⟩ := Kd.R_slice HO_5.out
            subst eo31
            go_wp2
            go_loopg [13] k1 (fun kq v13 w' => ∃ (x13_2 : Int), v13 = .int .i64 x13_2 ∧ Aside0 (thermographlaw09_CommitlogTorn.l1 kq (Int.tmod (wrap64 ((wrap64 ((Int.tmod a1 (wrap64 ((x5_1.length : Int) + 1))) + (x5_1.length : Int))) + 1)) (wrap64 ((x5_1.length : Int) + 1))) x5_1 x6_1 x7_1 x13_2 = some r) ∧ Aside0 (kq ≤ k1) ∧ Aside0 (Kd.R (Kd.int .u8) 5 w' w.heap.size (fun _ => True) (.slice Ao31 x5_1.length co31) x5_1) ∧ Aside0 (Kd.R (Kd.int .i64) 3 w' w.heap.size (fun _ => True) u6 x6_1) ∧ Aside0 (Kd.R k32 32 w' w.heap.size (fun _ => True) u7 x7_1) ∧ Aside0 (Below w.heap.size w w'))
            case atStart => exact ⟨(0), (by first | rfl | (simp; done) | (simp [*]; done)), H', ⟨Nat.le_refl _⟩, ⟨by (with_reducible repeat (first | apply Kd.R_alloc | apply Kd.R_drewN | apply Kd.R_drew)); exact HO_5.out⟩, ⟨by (with_reducible repeat (first | apply Kd.R_alloc | apply Kd.R_drewN | apply Kd.R_drew)); exact HO_6.out⟩, ⟨by (with_reducible repeat (first | apply Kd.R_alloc | apply Kd.R_drewN | apply Kd.R_drew)); exact HO_7.out⟩, ⟨by repeat (first | (with_reducible first | exact HB.out | apply below_alloc | apply pw_below_drewN | apply below_drew1) | exact HB.out)⟩⟩
            case round =>
              clear H'
              try clear c1
              try clear p2
              try clear c3
              try clear c3b0
              try clear c3b1
              try clear p3
              try clear q3
              try clear hx3
              try clear c5
              try clear p6
              try clear c9
              try clear c10
              try clear c10b0
              try clear c11
              try clear c11b0
              try clear c14
              try clear c14b0
              try clear c14b1
              try clear c15
              try clear c15b0
              try clear c15b1
              try clear c16
              try clear c17
              try clear c18
              try clear c30
              try clear c30b0
              try clear c30b1
              try clear p31
              try clear q31
              try clear hx31
              try clear hx314_0
              try clear hx314_1
              try clear hx314_2
              try clear hx314_3
              try clear hx314_4
              try clear hx319_0
              try clear hx319_1
              try clear hx319_2
              try clear hx319_3
              try clear hx319_4
              try clear hx330_0
              try clear hx330_1
              try clear hx330_2
              try clear hx330_3
              try clear hx330_4
              try clear p2
              try clear p314
              try clear p319
              try clear p330
              try clear q314
              try clear q319
              try clear q330
              obtain ⟨x13_2, rfl, HA, HK2, HO_5, HO_6, HO_7, HB⟩ := hrel
              cases gk with
              | zero => exact absurd HA.out (by simp [thermographlaw09_CommitlogTorn.l1])
              | succ k2 =>
                have H := HA.out
                clear HA
                simp only [thermographlaw09_CommitlogTorn.l1] at H
                by_cases c32 : (wrap64 (x13_2 + 1)) < (x6_1.length : Int)
                · rw [if_pos c32] at H
                  have c32b0 : decide ((wrap64 (x13_2 + 1)) < (x6_1.length : Int)) = true := decide_eq_true c32
                  clear c32
                  obtain ⟨ji33, hji33⟩ : ∃ j_ : Int, (wrap64 (x13_2 + 1)) = j_ := ⟨_, rfl⟩
                  replace H : (if 0 ≤ (ji33) then (if (rd x6_1 (ji33)) ≤ (Int.tmod (wrap64 ((wrap64 ((Int.tmod a1 (wrap64 ((x5_1.length : Int) + 1))) + (x5_1.length : Int))) + 1)) (wrap64 ((x5_1.length : Int) + 1))) then (thermographlaw09_CommitlogTorn.l1 k2 (Int.tmod (wrap64 ((wrap64 ((Int.tmod a1 (wrap64 ((x5_1.length : Int) + 1))) + (x5_1.length : Int))) + 1)) (wrap64 ((x5_1.length : Int) + 1))) x5_1 x6_1 x7_1 ji33) else (if 0 ≤ (Int.tmod (wrap64 ((wrap64 ((Int.tmod a1 (wrap64 ((x5_1.length : Int) + 1))) + (x5_1.length : Int))) + 1)) (wrap64 ((x5_1.length : Int) + 1))) then (if (Int.tmod (wrap64 ((wrap64 ((Int.tmod a1 (wrap64 ((x5_1.length : Int) + 1))) + (x5_1.length : Int))) + 1)) (wrap64 ((x5_1.length : Int) + 1))) ≤ (x5_1.length : Int) then ((commitlog_Decode.f (x5_1.take ((Int.tmod (wrap64 ((wrap64 ((Int.tmod a1 (wrap64 ((x5_1.length : Int) + 1))) + (x5_1.length : Int))) + 1)) (wrap64 ((x5_1.length : Int) + 1))) : Int).toNat)).bind fun bt339 => (if 0 ≤ x13_2 then (if x13_2 < (x6_1.length : Int) then (if bt339.2 = (rd x6_1 x13_2) then (if x13_2 ≤ (x7_1.length : Int) then ((thermographlaw09_same.f k2 bt339.1 (x7_1.take (x13_2 : Int).toNat)).bind fun t348 => (some t348)) else (none)) else (some false)) else (none)) else (none))) else (none)) else (none))) else (none)) = some r := by first | (rw [hji33] at H; exact H) | (simp only [hji33] at H ⊢; exact H)
                  (try rw [hji33] at c32b0)
                  have hji33w : (IntKind.i64.wrap (x13_2 + 1)) = ji33 := (i64_w _).trans hji33
                  by_cases c34 : 0 ≤ (ji33)
                  · rw [if_pos c34] at H
                    have c34b0 : decide (0 ≤ (ji33)) = true := decide_eq_true c34
                    clear c34
                    by_cases c35 : (rd x6_1 (ji33)) ≤ (Int.tmod (wrap64 ((wrap64 ((Int.tmod a1 (wrap64 ((x5_1.length : Int) + 1))) + (x5_1.length : Int))) + 1)) (wrap64 ((x5_1.length : Int) + 1)))
                    · rw [if_pos c35] at H
                      have c35b0 : decide ((rd x6_1 (ji33)) ≤ (Int.tmod (wrap64 ((wrap64 ((Int.tmod a1 (wrap64 ((x5_1.length : Int) + 1))) + (x5_1.length : Int))) + 1)) (wrap64 ((x5_1.length : Int) + 1)))) = true := decide_eq_true c35
                      clear c35
                      have H' := Aside0.mk H
                      clear H
                      obtain ⟨Ao36, co36, eo36⟩ := Kd.R_slice HO_6.out
                      subst eo36
                      have p334 : 0 ≤ ((ji33) : Int) := of_decide_eq_true (by first | (with_reducible assumption) | assumption)
                      have q334 : (ji33) < (x6_1.length : Int) := of_decide_eq_true (by first | (with_reducible assumption) | assumption)
                      obtain ⟨ad334, e334, hx334_0⟩ := Kd.at_int (Kd.R_reads' HO_6.out).2.2 (ji33) p334 q334
                      cases e334
                      replace p334 := eq_true p334
                      replace q334 := eq_true q334
                      go_wp2
                      go_roundg k2
                      case measure => have := HK1.out; have := HK2.out; omega
                      case rel => exact ⟨(ji33), (by first | rfl | (simp; done) | (simp only [← hji33] <;> (first | rfl | simp)) | (simp [*]; done)), H', ⟨by have := HK1.out; have := HK2.out; omega⟩, ⟨by (with_reducible repeat (first | apply Kd.R_alloc | apply Kd.R_drewN | apply Kd.R_drew)); exact HO_5.out⟩, ⟨by (with_reducible repeat (first | apply Kd.R_alloc | apply Kd.R_drewN | apply Kd.R_drew)); exact HO_6.out⟩, ⟨by (with_reducible repeat (first | apply Kd.R_alloc | apply Kd.R_drewN | apply Kd.R_drew)); exact HO_7.out⟩, ⟨by repeat (first | (with_reducible first | exact HB.out | apply below_alloc | apply pw_below_drewN | apply below_drew1) | exact HB.out)⟩⟩
                    · rw [if_neg c35] at H
                      have c35b0 : decide ((rd x6_1 (ji33)) ≤ (Int.tmod (wrap64 ((wrap64 ((Int.tmod a1 (wrap64 ((x5_1.length : Int) + 1))) + (x5_1.length : Int))) + 1)) (wrap64 ((x5_1.length : Int) + 1)))) = false := decide_eq_false c35
                      clear c35
                      obtain ⟨ji37, hji37⟩ : ∃ j_ : Int, (Int.tmod (wrap64 ((wrap64 ((Int.tmod a1 (wrap64 ((x5_1.length : Int) + 1))) + (x5_1.length : Int))) + 1)) (wrap64 ((x5_1.length : Int) + 1))) = j_ := ⟨_, rfl⟩
                      replace H : (if 0 ≤ (ji37) then (if (ji37) ≤ (x5_1.length : Int) then ((commitlog_Decode.f (x5_1.take ((ji37) : Int).toNat)).bind fun bt339 => (if 0 ≤ x13_2 then (if x13_2 < (x6_1.length : Int) then (if bt339.2 = (rd x6_1 x13_2) then (if x13_2 ≤ (x7_1.length : Int) then ((thermographlaw09_same.f k2 bt339.1 (x7_1.take (x13_2 : Int).toNat)).bind fun t348 => (some t348)) else (none)) else (some false)) else (none)) else (none))) else (none)) else (none)) = some r := by first | (rw [hji37] at H; exact H) | (simp only [hji37] at H ⊢; exact H)
                      (try rw [hji37] at c35b0)
                      by_cases c38 : 0 ≤ (ji37)
                      · rw [if_pos c38] at H
                        have c38b0 := eq_true c38
                        have c38b1 : decide (0 ≤ (ji37)) = true := decide_eq_true c38
                        clear c38
                        by_cases c39 : (ji37) ≤ (x5_1.length : Int)
                        · rw [if_pos c39] at H
                          have c39b0 := eq_true c39
                          have c39b1 : decide ((ji37) ≤ (x5_1.length : Int)) = true := decide_eq_true c39
                          clear c39
                          obtain ⟨y335, hy335⟩ : ∃ y_ : List Int, y_ = (x5_1.take ((ji37) : Int).toNat) := ⟨_, rfl⟩
                          replace H : ((commitlog_Decode.f y335).bind fun bt339 => (if 0 ≤ x13_2 then (if x13_2 < (x6_1.length : Int) then (if bt339.2 = (rd x6_1 x13_2) then (if x13_2 ≤ (x7_1.length : Int) then ((thermographlaw09_same.f k2 bt339.1 (x7_1.take (x13_2 : Int).toNat)).bind fun t348 => (some t348)) else (none)) else (some false)) else (none)) else (none))) = some r := by first | (rw [hy335]; with_reducible exact H) | (have H2_ := (Option.bind_some _ _).symm.trans H; rw [hy335]; with_reducible exact H2_) | (have H2_ := (Option.bind_some _ _).symm.trans H; with_reducible exact H2_) | with_reducible exact H | (rw [hy335]; exact H) | exact H
                          have Ny335 := Aside0.mk hy335
                          clear hy335
                          replace H := Option.bind_eq_some_iff.mp H
                          obtain ⟨⟨t339, t340⟩, A400, H⟩ := H
                          replace H : (if 0 ≤ x13_2 then (if x13_2 < (x6_1.length : Int) then (if t340 = (rd x6_1 x13_2) then (if x13_2 ≤ (x7_1.length : Int) then ((thermographlaw09_same.f k2 t339 (x7_1.take (x13_2 : Int).toNat)).bind fun t348 => (some t348)) else (none)) else (some false)) else (none)) else (none)) = some r := H
                          have A40 := Aside0.mk A400
                          clear A400
                          by_cases c41 : 0 ≤ x13_2
                          · rw [if_pos c41] at H
                            have c41b0 : decide (0 ≤ x13_2) = true := decide_eq_true c41
                            clear c41
                            by_cases c42 : x13_2 < (x6_1.length : Int)
                            · rw [if_pos c42] at H
                              have c42b0 : decide (x13_2 < (x6_1.length : Int)) = true := decide_eq_true c42
                              clear c42
                              by_cases c43 : t340 = (rd x6_1 x13_2)
                              · rw [if_pos c43] at H
                                have c43b0 : (t340 == (rd x6_1 x13_2)) = true := beq_iff_eq.mpr c43
                                have c43b1 : (t340 != (rd x6_1 x13_2)) = false := bne_eq_false_iff_eq.mpr c43
                                clear c43
                                have c44b0 := eq_true (of_decide_eq_true (by first | (with_reducible assumption) | assumption) : 0 ≤ x13_2)
                                by_cases c45 : x13_2 ≤ (x7_1.length : Int)
                                · rw [if_pos c45] at H
                                  have c45b0 := eq_true c45
                                  have c45b1 : decide (x13_2 ≤ (x7_1.length : Int)) = true := decide_eq_true c45
                                  clear c45
                                  obtain ⟨y344, hy344⟩ : ∃ y_ : List (S32), y_ = (x7_1.take (x13_2 : Int).toNat) := ⟨_, rfl⟩
                                  replace H : ((thermographlaw09_same.f k2 t339 y344).bind fun t348 => (some t348)) = some r := by first | (rw [hy344]; with_reducible exact H) | (have H2_ := (Option.bind_some _ _).symm.trans H; rw [hy344]; with_reducible exact H2_) | (have H2_ := (Option.bind_some _ _).symm.trans H; with_reducible exact H2_) | with_reducible exact H | (rw [hy344]; exact H) | exact H
                                  have Ny344 := Aside0.mk hy344
                                  clear hy344
                                  replace H := Option.bind_eq_some_iff.mp H
                                  obtain ⟨t348, A460, H⟩ := H
                                  replace H : (some t348) = some r := H
                                  have A46 := Aside0.mk A460
                                  clear A460
                                  obtain rfl := Option.some.inj H
                                  obtain ⟨Ao47, co47, eo47⟩ := Kd.R_slice HO_6.out
                                  subst eo47
                                  have p334 : 0 ≤ ((ji33) : Int) := of_decide_eq_true (by first | (with_reducible assumption) | assumption)
                                  have q334 : (ji33) < (x6_1.length : Int) := of_decide_eq_true (by first | (with_reducible assumption) | assumption)
                                  obtain ⟨ad334, e334, hx334_0⟩ := Kd.at_int (Kd.R_reads' HO_6.out).2.2 (ji33) p334 q334
                                  cases e334
                                  replace p334 := eq_true p334
                                  replace q334 := eq_true q334
                                  have q48 : ((ji37) : Int) ≤ ((x5_1.length : Int) : Int) := of_decide_eq_true (by first | (with_reducible assumption) | assumption)
                                  obtain ⟨i048, hi048, _, hsz48, _⟩ := info_parts info5
                                  have hroom48 : x5_1.length ≤ co31 := (Kd.R_reads' HO_5.out).2.1
                                  have hC48 : Kd.C (Kd.int .u8) _ Ao31 x5_1.length x5_1 := (Kd.R_reads' HO_5.out).2.2
                                  have hcut48 := cut_to (P := Try.prog) 22 5 .i64 Try.underlying22 hi048 Ao31 x5_1.length co31 (ji37) (of_decide_eq_true (by first | (with_reducible assumption) | assumption)) q48 hroom48
                                  have hr48 := Kd.C_take (m := ((ji37) : Int).toNat) hC48 (by omega)
                                  have hy48 : y335.length = ((ji37) : Int).toNat := (by rw [Ny335.out, List.length_take]; omega)
                                  rw [← Ny335.out] at hr48
                                  rw [← hy48] at hcut48
                                  have HR338 := Aside0.mk hr48
                                  have HC338 := Aside0.mk (show y335.length ≤ co31 from by omega)
                                  clear hr48 hC48 hroom48 hi048 hsz48
                                  have KY48 := Aside0.mk hy48
                                  clear hy48
                                  have KL48 := Aside0.mk (show ((ji37) : Int).toNat ≤ x5_1.length from by omega)
                                  replace q48 := eq_true q48
                                  go_wp2_with (first | ((with_reducible refine gate_callee (f := 6) rfl ?_); refine goesL_ (some 97) rfl rfl Try.func6 (by kernel_rfl) rfl #[.slice Ao31 y335.length co31] rfl (by (try simp only [List.map_toArray, List.map_cons, List.map_nil]); first | done | rfl | (simp only [List.length_drop, List.length_take]; rfl)) ?_; (with_reducible refine (commitlog_Decode.calls _ _ y335 t339 t340 _ ?side1 ?side2 A40.out).mono ?_); (case side1 => repeat (first | exact (by repeat (first | (with_reducible exact HR338.out) | (with_reducible refine Kd.C_alloc ?_ _) | (with_reducible refine Kd.C_drewN ?_ _) | (with_reducible refine Kd.C_drew ?_) | exact HR338.out)) | (with_reducible refine Kd.C_alloc ?_ _) | (with_reducible refine Kd.C_drewN ?_ _) | (with_reducible refine Kd.C_drew ?_))); (case side2 => exact HC338.out); rintro e w49 ⟨v341, rfl, ho0, hb⟩; refine ⟨_, rfl, ?_⟩; have n0_ := Aside0.mk (Kd.R_below (by (with_reducible repeat (first | apply Kd.R_alloc | apply Kd.R_drewN | apply Kd.R_drew)); exact HO_5.out) hb); have n1_ := Aside0.mk (Kd.R_below (by (with_reducible repeat (first | apply Kd.R_alloc | apply Kd.R_drewN | apply Kd.R_drew)); exact HO_6.out) hb); have n2_ := Aside0.mk (Kd.R_elder' (by (with_reducible repeat (first | apply Kd.R_alloc | apply Kd.R_drewN | apply Kd.R_drew)); exact HO_7.out) (Kd.R_base ho0) hb); have n3_ := Aside0.mk (Kd.R_lower (Kd.R_new' ho0 (Kd.R_lt (by (with_reducible repeat (first | apply Kd.R_alloc | apply Kd.R_drewN | apply Kd.R_drew)); exact HO_7.out))) (below_size (by repeat (first | (with_reducible first | exact HB.out | apply below_alloc | apply pw_below_drewN | apply below_drew1) | exact HB.out)))); have n4_ := Aside0.mk (Kd.C_below (by repeat (first | (with_reducible exact HR338.out) | (with_reducible refine Kd.C_alloc ?_ _) | (with_reducible refine Kd.C_drewN ?_ _) | (with_reducible refine Kd.C_drew ?_) | exact HR338.out)) hb); have n5_ := Aside0.mk (below_step (by repeat (first | (with_reducible first | exact HB.out | apply below_alloc | apply pw_below_drewN | apply below_drew1) | exact HB.out)) hb); clear HO_5; clear HO_6; clear HO_7; clear HR338; clear HB; have HO_5 := n0_; have HO_6 := n1_; have HO_7 := n2_; have HO342 := n3_; have HR338 := n4_; have HB := n5_; clear n0_ n1_ n2_ n3_ n4_ n5_; (try clear hb); (try clear hb2); (try clear hk); (try clear hi); (try clear ho0); have p343 : 0 ≤ (x13_2 : Int) := of_decide_eq_true (by first | (with_reducible assumption) | assumption); have q343 : x13_2 < (x6_1.length : Int) := of_decide_eq_true (by first | (with_reducible assumption) | assumption); obtain ⟨ad343, e343, hx343_0⟩ := Kd.at_int (Kd.R_reads' HO_6.out).2.2 x13_2 p343 q343; obtain rfl : ad334 = ad343 := (by injection e343); replace p343 := eq_true p343; replace q343 := eq_true q343; obtain ⟨Ao51, co51, eo51⟩ := Kd.R_slice HO_7.out; subst eo51; have q50 : (x13_2 : Int) ≤ ((x7_1.length : Int) : Int) := of_decide_eq_true (by first | (with_reducible assumption) | assumption); obtain ⟨i050, hi050, _, hsz50, _⟩ := info_parts info32; have hroom50 : x7_1.length ≤ co51 := (Kd.R_reads' HO_7.out).2.1; have hC50 : Kd.C k32 _ Ao51 x7_1.length x7_1 := (Kd.R_reads' HO_7.out).2.2; have hcut50 := cut_to (P := Try.prog) 23 32 .i64 Try.underlying23 hi050 Ao51 x7_1.length co51 x13_2 (of_decide_eq_true (by first | (with_reducible assumption) | assumption)) q50 hroom50; have hr50 := Kd.C_take (m := (x13_2 : Int).toNat) hC50 (by omega); have hy50 : y344.length = (x13_2 : Int).toNat := (by rw [Ny344.out, List.length_take]; omega); rw [← Ny344.out] at hr50; rw [← hy50] at hcut50; have HR347 := Aside0.mk hr50; have HC347 := Aside0.mk (show y344.length ≤ co51 from by omega); clear hr50 hC50 hroom50 hi050 hsz50; have KY50 := Aside0.mk hy50; clear hy50; have KL50 := Aside0.mk (show (x13_2 : Int).toNat ≤ x7_1.length from by omega); replace q50 := eq_true q50; obtain ⟨Ao52, co52, eo52⟩ := Kd.R_slice HO342.out; subst eo52) | (go_at_call 8; (with_reducible refine (thermographlaw09_same.calls k2 _ _ t339 _ _ y344 t348 _ ?side1 ?side2 ?side3 ?side4 A46.out).mono ?_); (case side1 => repeat (first | exact (Kd.R_reads' HO342.out).2.2 | (with_reducible refine Kd.C_alloc ?_ _) | (with_reducible refine Kd.C_drewN ?_ _) | (with_reducible refine Kd.C_drew ?_))); (case side2 => exact (Kd.R_reads' HO342.out).2.1); (case side3 => repeat (first | exact (by repeat (first | (with_reducible exact HR347.out) | (with_reducible refine Kd.C_alloc ?_ _) | (with_reducible refine Kd.C_drewN ?_ _) | (with_reducible refine Kd.C_drew ?_) | exact HR347.out)) | (with_reducible refine Kd.C_alloc ?_ _) | (with_reducible refine Kd.C_drewN ?_ _) | (with_reducible refine Kd.C_drew ?_))); (case side4 => exact HC347.out); rintro e w' ⟨rfl, ⟨nd, rfl⟩⟩))
                                  go_ret
                                  exact ⟨by first | rfl | (simp [errW_none, errW_some] <;> rfl) | (simp only [← hji33, ← hji37]; first | rfl | (simp [errW_none, errW_some] <;> rfl)) | (simp [*, errW_none, errW_some] <;> rfl), by repeat (first | (with_reducible first | exact HB.out | apply below_alloc | apply pw_below_drewN | apply below_drew1) | exact HB.out)⟩
                                · rw [if_neg c45] at H
                                  exact absurd H (by simp)
                              · rw [if_neg c43] at H
                                have c43b0 : (t340 == (rd x6_1 x13_2)) = false := beq_eq_false_iff_ne.mpr c43
                                have c43b1 : (t340 != (rd x6_1 x13_2)) = true := bne_iff_ne.mpr c43
                                obtain rfl := Option.some.inj H
                                obtain ⟨Ao53, co53, eo53⟩ := Kd.R_slice HO_6.out
                                subst eo53
                                have p334 : 0 ≤ ((ji33) : Int) := of_decide_eq_true (by first | (with_reducible assumption) | assumption)
                                have q334 : (ji33) < (x6_1.length : Int) := of_decide_eq_true (by first | (with_reducible assumption) | assumption)
                                obtain ⟨ad334, e334, hx334_0⟩ := Kd.at_int (Kd.R_reads' HO_6.out).2.2 (ji33) p334 q334
                                cases e334
                                replace p334 := eq_true p334
                                replace q334 := eq_true q334
                                have q54 : ((ji37) : Int) ≤ ((x5_1.length : Int) : Int) := of_decide_eq_true (by first | (with_reducible assumption) | assumption)
                                obtain ⟨i054, hi054, _, hsz54, _⟩ := info_parts info5
                                have hroom54 : x5_1.length ≤ co31 := (Kd.R_reads' HO_5.out).2.1
                                have hC54 : Kd.C (Kd.int .u8) _ Ao31 x5_1.length x5_1 := (Kd.R_reads' HO_5.out).2.2
                                have hcut54 := cut_to (P := Try.prog) 22 5 .i64 Try.underlying22 hi054 Ao31 x5_1.length co31 (ji37) (of_decide_eq_true (by first | (with_reducible assumption) | assumption)) q54 hroom54
                                have hr54 := Kd.C_take (m := ((ji37) : Int).toNat) hC54 (by omega)
                                have hy54 : y335.length = ((ji37) : Int).toNat := (by rw [Ny335.out, List.length_take]; omega)
                                rw [← Ny335.out] at hr54
                                rw [← hy54] at hcut54
                                have HR338 := Aside0.mk hr54
                                have HC338 := Aside0.mk (show y335.length ≤ co31 from by omega)
                                clear hr54 hC54 hroom54 hi054 hsz54
                                have KY54 := Aside0.mk hy54
                                clear hy54
                                have KL54 := Aside0.mk (show ((ji37) : Int).toNat ≤ x5_1.length from by omega)
                                replace q54 := eq_true q54
                                go_wp2_with (first | ((with_reducible refine gate_callee (f := 6) rfl ?_); refine goesL_ (some 97) rfl rfl Try.func6 (by kernel_rfl) rfl #[.slice Ao31 y335.length co31] rfl (by (try simp only [List.map_toArray, List.map_cons, List.map_nil]); first | done | rfl | (simp only [List.length_drop, List.length_take]; rfl)) ?_; (with_reducible refine (commitlog_Decode.calls _ _ y335 t339 t340 _ ?side1 ?side2 A40.out).mono ?_); (case side1 => repeat (first | exact (by repeat (first | (with_reducible exact HR338.out) | (with_reducible refine Kd.C_alloc ?_ _) | (with_reducible refine Kd.C_drewN ?_ _) | (with_reducible refine Kd.C_drew ?_) | exact HR338.out)) | (with_reducible refine Kd.C_alloc ?_ _) | (with_reducible refine Kd.C_drewN ?_ _) | (with_reducible refine Kd.C_drew ?_))); (case side2 => exact HC338.out); rintro e w55 ⟨v341, rfl, ho0, hb⟩; refine ⟨_, rfl, ?_⟩; have n0_ := Aside0.mk (Kd.R_below (by (with_reducible repeat (first | apply Kd.R_alloc | apply Kd.R_drewN | apply Kd.R_drew)); exact HO_5.out) hb); have n1_ := Aside0.mk (Kd.R_below (by (with_reducible repeat (first | apply Kd.R_alloc | apply Kd.R_drewN | apply Kd.R_drew)); exact HO_6.out) hb); have n2_ := Aside0.mk (Kd.R_elder' (by (with_reducible repeat (first | apply Kd.R_alloc | apply Kd.R_drewN | apply Kd.R_drew)); exact HO_7.out) (Kd.R_base ho0) hb); have n3_ := Aside0.mk (Kd.R_lower (Kd.R_new' ho0 (Kd.R_lt (by (with_reducible repeat (first | apply Kd.R_alloc | apply Kd.R_drewN | apply Kd.R_drew)); exact HO_7.out))) (below_size (by repeat (first | (with_reducible first | exact HB.out | apply below_alloc | apply pw_below_drewN | apply below_drew1) | exact HB.out)))); have n4_ := Aside0.mk (Kd.C_below (by repeat (first | (with_reducible exact HR338.out) | (with_reducible refine Kd.C_alloc ?_ _) | (with_reducible refine Kd.C_drewN ?_ _) | (with_reducible refine Kd.C_drew ?_) | exact HR338.out)) hb); have n5_ := Aside0.mk (below_step (by repeat (first | (with_reducible first | exact HB.out | apply below_alloc | apply pw_below_drewN | apply below_drew1) | exact HB.out)) hb); clear HO_5; clear HO_6; clear HO_7; clear HR338; clear HB; have HO_5 := n0_; have HO_6 := n1_; have HO_7 := n2_; have HO342 := n3_; have HR338 := n4_; have HB := n5_; clear n0_ n1_ n2_ n3_ n4_ n5_; (try clear hb); (try clear hb2); (try clear hk); (try clear hi); (try clear ho0); have p343 : 0 ≤ (x13_2 : Int) := of_decide_eq_true (by first | (with_reducible assumption) | assumption); have q343 : x13_2 < (x6_1.length : Int) := of_decide_eq_true (by first | (with_reducible assumption) | assumption); obtain ⟨ad343, e343, hx343_0⟩ := Kd.at_int (Kd.R_reads' HO_6.out).2.2 x13_2 p343 q343; obtain rfl : ad334 = ad343 := (by injection e343); replace p343 := eq_true p343; replace q343 := eq_true q343))
                                go_ret
                                exact ⟨by first | rfl | (simp [errW_none, errW_some] <;> rfl) | (simp only [← hji33, ← hji37]; first | rfl | (simp [errW_none, errW_some] <;> rfl)) | (simp [*, errW_none, errW_some] <;> rfl), by repeat (first | (with_reducible first | exact HB.out | apply below_alloc | apply pw_below_drewN | apply below_drew1) | exact HB.out)⟩
                            · rw [if_neg c42] at H
                              exact absurd H (by simp)
                          · rw [if_neg c41] at H
                            exact absurd H (by simp)
                        · rw [if_neg c39] at H
                          exact absurd H (by simp)
                      · rw [if_neg c38] at H
                        exact absurd H (by simp)
                  · rw [if_neg c34] at H
                    exact absurd H (by simp)
                · rw [if_neg c32] at H
                  have c32b0 : decide ((wrap64 (x13_2 + 1)) < (x6_1.length : Int)) = false := decide_eq_false c32
                  clear c32
                  obtain ⟨ji56, hji56⟩ : ∃ j_ : Int, (Int.tmod (wrap64 ((wrap64 ((Int.tmod a1 (wrap64 ((x5_1.length : Int) + 1))) + (x5_1.length : Int))) + 1)) (wrap64 ((x5_1.length : Int) + 1))) = j_ := ⟨_, rfl⟩
                  replace H : (if 0 ≤ (ji56) then (if (ji56) ≤ (x5_1.length : Int) then ((commitlog_Decode.f (x5_1.take ((ji56) : Int).toNat)).bind fun bt353 => (if 0 ≤ x13_2 then (if x13_2 < (x6_1.length : Int) then (if bt353.2 = (rd x6_1 x13_2) then (if x13_2 ≤ (x7_1.length : Int) then ((thermographlaw09_same.f k2 bt353.1 (x7_1.take (x13_2 : Int).toNat)).bind fun t362 => (some t362)) else (none)) else (some false)) else (none)) else (none))) else (none)) else (none)) = some r := by first | (rw [hji56] at H; exact H) | (simp only [hji56] at H ⊢; exact H)
                  by_cases c57 : 0 ≤ (ji56)
                  · rw [if_pos c57] at H
                    have c57b0 := eq_true c57
                    have c57b1 : decide (0 ≤ (ji56)) = true := decide_eq_true c57
                    clear c57
                    by_cases c58 : (ji56) ≤ (x5_1.length : Int)
                    · rw [if_pos c58] at H
                      have c58b0 := eq_true c58
                      have c58b1 : decide ((ji56) ≤ (x5_1.length : Int)) = true := decide_eq_true c58
                      clear c58
                      obtain ⟨y349, hy349⟩ : ∃ y_ : List Int, y_ = (x5_1.take ((ji56) : Int).toNat) := ⟨_, rfl⟩
                      replace H : ((commitlog_Decode.f y349).bind fun bt353 => (if 0 ≤ x13_2 then (if x13_2 < (x6_1.length : Int) then (if bt353.2 = (rd x6_1 x13_2) then (if x13_2 ≤ (x7_1.length : Int) then ((thermographlaw09_same.f k2 bt353.1 (x7_1.take (x13_2 : Int).toNat)).bind fun t362 => (some t362)) else (none)) else (some false)) else (none)) else (none))) = some r := by first | (rw [hy349]; with_reducible exact H) | (have H2_ := (Option.bind_some _ _).symm.trans H; rw [hy349]; with_reducible exact H2_) | (have H2_ := (Option.bind_some _ _).symm.trans H; with_reducible exact H2_) | with_reducible exact H | (rw [hy349]; exact H) | exact H
                      have Ny349 := Aside0.mk hy349
                      clear hy349
                      replace H := Option.bind_eq_some_iff.mp H
                      obtain ⟨⟨t353, t354⟩, A590, H⟩ := H
                      replace H : (if 0 ≤ x13_2 then (if x13_2 < (x6_1.length : Int) then (if t354 = (rd x6_1 x13_2) then (if x13_2 ≤ (x7_1.length : Int) then ((thermographlaw09_same.f k2 t353 (x7_1.take (x13_2 : Int).toNat)).bind fun t362 => (some t362)) else (none)) else (some false)) else (none)) else (none)) = some r := H
                      have A59 := Aside0.mk A590
                      clear A590
                      by_cases c60 : 0 ≤ x13_2
                      · rw [if_pos c60] at H
                        have c60b0 : decide (0 ≤ x13_2) = true := decide_eq_true c60
                        clear c60
                        by_cases c61 : x13_2 < (x6_1.length : Int)
                        · rw [if_pos c61] at H
                          have c61b0 : decide (x13_2 < (x6_1.length : Int)) = true := decide_eq_true c61
                          clear c61
                          by_cases c62 : t354 = (rd x6_1 x13_2)
                          · rw [if_pos c62] at H
                            have c62b0 : (t354 == (rd x6_1 x13_2)) = true := beq_iff_eq.mpr c62
                            have c62b1 : (t354 != (rd x6_1 x13_2)) = false := bne_eq_false_iff_eq.mpr c62
                            clear c62
                            have c63b0 := eq_true (of_decide_eq_true (by first | (with_reducible assumption) | assumption) : 0 ≤ x13_2)
                            by_cases c64 : x13_2 ≤ (x7_1.length : Int)
                            · rw [if_pos c64] at H
                              have c64b0 := eq_true c64
                              have c64b1 : decide (x13_2 ≤ (x7_1.length : Int)) = true := decide_eq_true c64
                              clear c64
                              obtain ⟨y358, hy358⟩ : ∃ y_ : List (S32), y_ = (x7_1.take (x13_2 : Int).toNat) := ⟨_, rfl⟩
                              replace H : ((thermographlaw09_same.f k2 t353 y358).bind fun t362 => (some t362)) = some r := by first | (rw [hy358]; with_reducible exact H) | (have H2_ := (Option.bind_some _ _).symm.trans H; rw [hy358]; with_reducible exact H2_) | (have H2_ := (Option.bind_some _ _).symm.trans H; with_reducible exact H2_) | with_reducible exact H | (rw [hy358]; exact H) | exact H
                              have Ny358 := Aside0.mk hy358
                              clear hy358
                              replace H := Option.bind_eq_some_iff.mp H
                              obtain ⟨t362, A650, H⟩ := H
                              replace H : (some t362) = some r := H
                              have A65 := Aside0.mk A650
                              clear A650
                              obtain rfl := Option.some.inj H
                              obtain ⟨Ao66, co66, eo66⟩ := Kd.R_slice HO_6.out
                              subst eo66
                              have q67 : ((ji56) : Int) ≤ ((x5_1.length : Int) : Int) := of_decide_eq_true (by first | (with_reducible assumption) | assumption)
                              obtain ⟨i067, hi067, _, hsz67, _⟩ := info_parts info5
                              have hroom67 : x5_1.length ≤ co31 := (Kd.R_reads' HO_5.out).2.1
                              have hC67 : Kd.C (Kd.int .u8) _ Ao31 x5_1.length x5_1 := (Kd.R_reads' HO_5.out).2.2
                              have hcut67 := cut_to (P := Try.prog) 22 5 .i64 Try.underlying22 hi067 Ao31 x5_1.length co31 (ji56) (of_decide_eq_true (by first | (with_reducible assumption) | assumption)) q67 hroom67
                              have hr67 := Kd.C_take (m := ((ji56) : Int).toNat) hC67 (by omega)
                              have hy67 : y349.length = ((ji56) : Int).toNat := (by rw [Ny349.out, List.length_take]; omega)
                              rw [← Ny349.out] at hr67
                              rw [← hy67] at hcut67
                              have HR352 := Aside0.mk hr67
                              have HC352 := Aside0.mk (show y349.length ≤ co31 from by omega)
                              clear hr67 hC67 hroom67 hi067 hsz67
                              have KY67 := Aside0.mk hy67
                              clear hy67
                              have KL67 := Aside0.mk (show ((ji56) : Int).toNat ≤ x5_1.length from by omega)
                              replace q67 := eq_true q67
                              go_wp2_with (first | ((with_reducible refine gate_callee (f := 6) rfl ?_); refine goesL_ (some 97) rfl rfl Try.func6 (by kernel_rfl) rfl #[.slice Ao31 y349.length co31] rfl (by (try simp only [List.map_toArray, List.map_cons, List.map_nil]); first | done | rfl | (simp only [List.length_drop, List.length_take]; rfl)) ?_; (with_reducible refine (commitlog_Decode.calls _ _ y349 t353 t354 _ ?side1 ?side2 A59.out).mono ?_); (case side1 => repeat (first | exact (by repeat (first | (with_reducible exact HR352.out) | (with_reducible refine Kd.C_alloc ?_ _) | (with_reducible refine Kd.C_drewN ?_ _) | (with_reducible refine Kd.C_drew ?_) | exact HR352.out)) | (with_reducible refine Kd.C_alloc ?_ _) | (with_reducible refine Kd.C_drewN ?_ _) | (with_reducible refine Kd.C_drew ?_))); (case side2 => exact HC352.out); rintro e w68 ⟨v355, rfl, ho0, hb⟩; refine ⟨_, rfl, ?_⟩; have n0_ := Aside0.mk (Kd.R_below (by (with_reducible repeat (first | apply Kd.R_alloc | apply Kd.R_drewN | apply Kd.R_drew)); exact HO_5.out) hb); have n1_ := Aside0.mk (Kd.R_below (by (with_reducible repeat (first | apply Kd.R_alloc | apply Kd.R_drewN | apply Kd.R_drew)); exact HO_6.out) hb); have n2_ := Aside0.mk (Kd.R_elder' (by (with_reducible repeat (first | apply Kd.R_alloc | apply Kd.R_drewN | apply Kd.R_drew)); exact HO_7.out) (Kd.R_base ho0) hb); have n3_ := Aside0.mk (Kd.R_lower (Kd.R_new' ho0 (Kd.R_lt (by (with_reducible repeat (first | apply Kd.R_alloc | apply Kd.R_drewN | apply Kd.R_drew)); exact HO_7.out))) (below_size (by repeat (first | (with_reducible first | exact HB.out | apply below_alloc | apply pw_below_drewN | apply below_drew1) | exact HB.out)))); have n4_ := Aside0.mk (Kd.C_below (by repeat (first | (with_reducible exact HR352.out) | (with_reducible refine Kd.C_alloc ?_ _) | (with_reducible refine Kd.C_drewN ?_ _) | (with_reducible refine Kd.C_drew ?_) | exact HR352.out)) hb); have n5_ := Aside0.mk (below_step (by repeat (first | (with_reducible first | exact HB.out | apply below_alloc | apply pw_below_drewN | apply below_drew1) | exact HB.out)) hb); clear HO_5; clear HO_6; clear HO_7; clear HR352; clear HB; have HO_5 := n0_; have HO_6 := n1_; have HO_7 := n2_; have HO356 := n3_; have HR352 := n4_; have HB := n5_; clear n0_ n1_ n2_ n3_ n4_ n5_; (try clear hb); (try clear hb2); (try clear hk); (try clear hi); (try clear ho0); have p357 : 0 ≤ (x13_2 : Int) := of_decide_eq_true (by first | (with_reducible assumption) | assumption); have q357 : x13_2 < (x6_1.length : Int) := of_decide_eq_true (by first | (with_reducible assumption) | assumption); obtain ⟨ad357, e357, hx357_0⟩ := Kd.at_int (Kd.R_reads' HO_6.out).2.2 x13_2 p357 q357; cases e357; replace p357 := eq_true p357; replace q357 := eq_true q357; obtain ⟨Ao70, co70, eo70⟩ := Kd.R_slice HO_7.out; subst eo70; have q69 : (x13_2 : Int) ≤ ((x7_1.length : Int) : Int) := of_decide_eq_true (by first | (with_reducible assumption) | assumption); obtain ⟨i069, hi069, _, hsz69, _⟩ := info_parts info32; have hroom69 : x7_1.length ≤ co70 := (Kd.R_reads' HO_7.out).2.1; have hC69 : Kd.C k32 _ Ao70 x7_1.length x7_1 := (Kd.R_reads' HO_7.out).2.2; have hcut69 := cut_to (P := Try.prog) 23 32 .i64 Try.underlying23 hi069 Ao70 x7_1.length co70 x13_2 (of_decide_eq_true (by first | (with_reducible assumption) | assumption)) q69 hroom69; have hr69 := Kd.C_take (m := (x13_2 : Int).toNat) hC69 (by omega); have hy69 : y358.length = (x13_2 : Int).toNat := (by rw [Ny358.out, List.length_take]; omega); rw [← Ny358.out] at hr69; rw [← hy69] at hcut69; have HR361 := Aside0.mk hr69; have HC361 := Aside0.mk (show y358.length ≤ co70 from by omega); clear hr69 hC69 hroom69 hi069 hsz69; have KY69 := Aside0.mk hy69; clear hy69; have KL69 := Aside0.mk (show (x13_2 : Int).toNat ≤ x7_1.length from by omega); replace q69 := eq_true q69; obtain ⟨Ao71, co71, eo71⟩ := Kd.R_slice HO356.out; subst eo71) | (go_at_call 8; (with_reducible refine (thermographlaw09_same.calls k2 _ _ t353 _ _ y358 t362 _ ?side1 ?side2 ?side3 ?side4 A65.out).mono ?_); (case side1 => repeat (first | exact (Kd.R_reads' HO356.out).2.2 | (with_reducible refine Kd.C_alloc ?_ _) | (with_reducible refine Kd.C_drewN ?_ _) | (with_reducible refine Kd.C_drew ?_))); (case side2 => exact (Kd.R_reads' HO356.out).2.1); (case side3 => repeat (first | exact (by repeat (first | (with_reducible exact HR361.out) | (with_reducible refine Kd.C_alloc ?_ _) | (with_reducible refine Kd.C_drewN ?_ _) | (with_reducible refine Kd.C_drew ?_) | exact HR361.out)) | (with_reducible refine Kd.C_alloc ?_ _) | (with_reducible refine Kd.C_drewN ?_ _) | (with_reducible refine Kd.C_drew ?_))); (case side4 => exact HC361.out); rintro e w' ⟨rfl, ⟨nd, rfl⟩⟩))
                              go_ret
                              exact ⟨by first | rfl | (simp [errW_none, errW_some] <;> rfl) | (simp only [← hji56]; first | rfl | (simp [errW_none, errW_some] <;> rfl)) | (simp [*, errW_none, errW_some] <;> rfl), by repeat (first | (with_reducible first | exact HB.out | apply below_alloc | apply pw_below_drewN | apply below_drew1) | exact HB.out)⟩
                            · rw [if_neg c64] at H
                              exact absurd H (by simp)
                          · rw [if_neg c62] at H
                            have c62b0 : (t354 == (rd x6_1 x13_2)) = false := beq_eq_false_iff_ne.mpr c62
                            have c62b1 : (t354 != (rd x6_1 x13_2)) = true := bne_iff_ne.mpr c62
                            obtain rfl := Option.some.inj H
                            obtain ⟨Ao72, co72, eo72⟩ := Kd.R_slice HO_6.out
                            subst eo72
                            have q73 : ((ji56) : Int) ≤ ((x5_1.length : Int) : Int) := of_decide_eq_true (by first | (with_reducible assumption) | assumption)
                            obtain ⟨i073, hi073, _, hsz73, _⟩ := info_parts info5
                            have hroom73 : x5_1.length ≤ co31 := (Kd.R_reads' HO_5.out).2.1
                            have hC73 : Kd.C (Kd.int .u8) _ Ao31 x5_1.length x5_1 := (Kd.R_reads' HO_5.out).2.2
                            have hcut73 := cut_to (P := Try.prog) 22 5 .i64 Try.underlying22 hi073 Ao31 x5_1.length co31 (ji56) (of_decide_eq_true (by first | (with_reducible assumption) | assumption)) q73 hroom73
                            have hr73 := Kd.C_take (m := ((ji56) : Int).toNat) hC73 (by omega)
                            have hy73 : y349.length = ((ji56) : Int).toNat := (by rw [Ny349.out, List.length_take]; omega)
                            rw [← Ny349.out] at hr73
                            rw [← hy73] at hcut73
                            have HR352 := Aside0.mk hr73
                            have HC352 := Aside0.mk (show y349.length ≤ co31 from by omega)
                            clear hr73 hC73 hroom73 hi073 hsz73
                            have KY73 := Aside0.mk hy73
                            clear hy73
                            have KL73 := Aside0.mk (show ((ji56) : Int).toNat ≤ x5_1.length from by omega)
                            replace q73 := eq_true q73
                            go_wp2_with (first | ((with_reducible refine gate_callee (f := 6) rfl ?_); refine goesL_ (some 97) rfl rfl Try.func6 (by kernel_rfl) rfl #[.slice Ao31 y349.length co31] rfl (by (try simp only [List.map_toArray, List.map_cons, List.map_nil]); first | done | rfl | (simp only [List.length_drop, List.length_take]; rfl)) ?_; (with_reducible refine (commitlog_Decode.calls _ _ y349 t353 t354 _ ?side1 ?side2 A59.out).mono ?_); (case side1 => repeat (first | exact (by repeat (first | (with_reducible exact HR352.out) | (with_reducible refine Kd.C_alloc ?_ _) | (with_reducible refine Kd.C_drewN ?_ _) | (with_reducible refine Kd.C_drew ?_) | exact HR352.out)) | (with_reducible refine Kd.C_alloc ?_ _) | (with_reducible refine Kd.C_drewN ?_ _) | (with_reducible refine Kd.C_drew ?_))); (case side2 => exact HC352.out); rintro e w74 ⟨v355, rfl, ho0, hb⟩; refine ⟨_, rfl, ?_⟩; have n0_ := Aside0.mk (Kd.R_below (by (with_reducible repeat (first | apply Kd.R_alloc | apply Kd.R_drewN | apply Kd.R_drew)); exact HO_5.out) hb); have n1_ := Aside0.mk (Kd.R_below (by (with_reducible repeat (first | apply Kd.R_alloc | apply Kd.R_drewN | apply Kd.R_drew)); exact HO_6.out) hb); have n2_ := Aside0.mk (Kd.R_elder' (by (with_reducible repeat (first | apply Kd.R_alloc | apply Kd.R_drewN | apply Kd.R_drew)); exact HO_7.out) (Kd.R_base ho0) hb); have n3_ := Aside0.mk (Kd.R_lower (Kd.R_new' ho0 (Kd.R_lt (by (with_reducible repeat (first | apply Kd.R_alloc | apply Kd.R_drewN | apply Kd.R_drew)); exact HO_7.out))) (below_size (by repeat (first | (with_reducible first | exact HB.out | apply below_alloc | apply pw_below_drewN | apply below_drew1) | exact HB.out)))); have n4_ := Aside0.mk (Kd.C_below (by repeat (first | (with_reducible exact HR352.out) | (with_reducible refine Kd.C_alloc ?_ _) | (with_reducible refine Kd.C_drewN ?_ _) | (with_reducible refine Kd.C_drew ?_) | exact HR352.out)) hb); have n5_ := Aside0.mk (below_step (by repeat (first | (with_reducible first | exact HB.out | apply below_alloc | apply pw_below_drewN | apply below_drew1) | exact HB.out)) hb); clear HO_5; clear HO_6; clear HO_7; clear HR352; clear HB; have HO_5 := n0_; have HO_6 := n1_; have HO_7 := n2_; have HO356 := n3_; have HR352 := n4_; have HB := n5_; clear n0_ n1_ n2_ n3_ n4_ n5_; (try clear hb); (try clear hb2); (try clear hk); (try clear hi); (try clear ho0); have p357 : 0 ≤ (x13_2 : Int) := of_decide_eq_true (by first | (with_reducible assumption) | assumption); have q357 : x13_2 < (x6_1.length : Int) := of_decide_eq_true (by first | (with_reducible assumption) | assumption); obtain ⟨ad357, e357, hx357_0⟩ := Kd.at_int (Kd.R_reads' HO_6.out).2.2 x13_2 p357 q357; cases e357; replace p357 := eq_true p357; replace q357 := eq_true q357))
                            go_ret
                            exact ⟨by first | rfl | (simp [errW_none, errW_some] <;> rfl) | (simp only [← hji56]; first | rfl | (simp [errW_none, errW_some] <;> rfl)) | (simp [*, errW_none, errW_some] <;> rfl), by repeat (first | (with_reducible first | exact HB.out | apply below_alloc | apply pw_below_drewN | apply below_drew1) | exact HB.out)⟩
                        · rw [if_neg c61] at H
                          exact absurd H (by simp)
                      · rw [if_neg c60] at H
                        exact absurd H (by simp)
                    · rw [if_neg c58] at H
                      exact absurd H (by simp)
                  · rw [if_neg c57] at H
                    exact absurd H (by simp)

end Go.Proofs.Ytnkcdopjhjmdnaa.QB
