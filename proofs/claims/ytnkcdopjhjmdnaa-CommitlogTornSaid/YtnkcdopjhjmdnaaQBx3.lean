/- What functions of the translation come to, each as a Lean function, and a proof that the call comes to just that; or a law's row, out of its plain law. Written by mp.py, a program of this session, which runs the printer of the kit with stand-in bodies for some library functions. -/
import Derived.Test.YtnkcdopjhjmdnaaQBx0
import Derived.Test.YtnkcdopjhjmdnaaQBx2
namespace Go.Proofs.Ytnkcdopjhjmdnaa.QB
open Go.RowKit Go.Proofs.YtnkcdopjhjmdnaaW.PrintWords Go.Proofs.YtnkcdopjhjmdnaaW.PrintLast Go.Proofs.YtnkcdopjhjmdnaaW.PrintMore
attribute [local go_sem] max2_int min2_int max_two min_two max_three min_three max_four min_four   -- for this text's walks alone
set_option linter.unusedVariables false
set_option linter.unusedSimpArgs false

/-! ### digest_Adler: function 16 -/
mutual
def digest_Adler.l0 : Nat → List Int → Int → Int → Option (Int)
  | 0, _, _, _ => none
  | k + 1, x0, x3, x4 => if (x0.length : Int) > 0 then (if 0 ≤ (mn (x0.length : Int) 3000) then (if (mn (x0.length : Int) 3000) ≤ (x0.length : Int) then ((some (x0.take ((mn (x0.length : Int) 3000) : Int).toNat : List Int)).bind fun y116 => (digest_Adler.l1 k x0 x3 x4 y116 y116 (y116.length : Int) 0)) else (none)) else (none)) else (some (Go.bits .or .u32 ((((x4) % 4294967296) * 65536) % 4294967296) ((x3) % 4294967296)))
def digest_Adler.l1 : Nat → List Int → Int → Int → List Int → List Int → Int → Int → Option (Int)
  | 0, _, _, _, _, _, _, _ => none
  | k + 1, x0, x3, x4, x5, x16, x17, x18 => if x18 < x17 then (if 0 ≤ x18 then (if x18 < (x16.length : Int) then (digest_Adler.l1 k x0 (wrap64 (x3 + (wrap64 (rd x16 x18)))) (wrap64 (x4 + (wrap64 (x3 + (wrap64 (rd x16 x18)))))) x5 x16 x17 (wrap64 (x18 + 1))) else (none)) else (none)) else (if 0 ≤ (x5.length : Int) then (if (x5.length : Int) ≤ (x0.length : Int) then (digest_Adler.l0 k (x0.drop ((x5.length : Int) : Int).toNat) (Int.tmod x3 65521) (Int.tmod x4 65521)) else (none)) else (none))
end
def digest_Adler.f (k : Nat) (l0 : List Int) : Option (Int) := digest_Adler.l0 k l0 1 0
theorem digest_Adler.mono_l : ∀ k, (∀ y0 y1 y2, LeO (digest_Adler.l0 k y0 y1 y2) (digest_Adler.l0 (k + 1) y0 y1 y2)) ∧ (∀ y0 y1 y2 y3 y4 y5 y6, LeO (digest_Adler.l1 k y0 y1 y2 y3 y4 y5 y6) (digest_Adler.l1 (k + 1) y0 y1 y2 y3 y4 y5 y6))
  | 0 => ⟨fun _ _ _ r h => by simp [digest_Adler.l0] at h, fun _ _ _ _ _ _ _ r h => by simp [digest_Adler.l1] at h⟩
  | k + 1 => by
    obtain ⟨ih0, ih1⟩ := digest_Adler.mono_l k
    refine ⟨?_, ?_⟩
    · intro y0 y1 y2
      unfold digest_Adler.l0
      repeat' first
      | (with_reducible exact ih0 _ _ _)
      | (with_reducible exact ih1 _ _ _ _ _ _ _)
      | (with_reducible exact LeO.refl _)
      | (with_reducible exact LeO.none _)
      | (with_reducible refine LeO.ite ?_ ?_)
      | (with_reducible refine LeO.bind ?_ (fun _ => ?_))
      | exact ih0 _ _ _
      | exact ih1 _ _ _ _ _ _ _
      | exact LeO.none _
      | refine LeO.ite ?_ ?_
      | refine LeO.bind ?_ (fun _ => ?_)
    · intro y0 y1 y2 y3 y4 y5 y6
      unfold digest_Adler.l1
      repeat' first
      | (with_reducible exact ih0 _ _ _)
      | (with_reducible exact ih1 _ _ _ _ _ _ _)
      | (with_reducible exact LeO.refl _)
      | (with_reducible exact LeO.none _)
      | (with_reducible refine LeO.ite ?_ ?_)
      | (with_reducible refine LeO.bind ?_ (fun _ => ?_))
      | exact ih0 _ _ _
      | exact ih1 _ _ _ _ _ _ _
      | exact LeO.none _
      | refine LeO.ite ?_ ?_
      | refine LeO.bind ?_ (fun _ => ?_)
theorem digest_Adler.mono : ∀ a0 k, LeO (digest_Adler.f k a0) (digest_Adler.f (k + 1) a0) := by
  intro a0 k
  obtain ⟨ih0, ih1⟩ := digest_Adler.mono_l k
  unfold digest_Adler.f
  repeat' first
      | (with_reducible exact ih0 _ _ _)
      | (with_reducible exact ih1 _ _ _ _ _ _ _)
      | (with_reducible exact LeO.refl _)
      | (with_reducible exact LeO.none _)
      | (with_reducible refine LeO.ite ?_ ?_)
      | (with_reducible refine LeO.bind ?_ (fun _ => ?_))
      | exact ih0 _ _ _
      | exact ih1 _ _ _ _ _ _ _
      | exact LeO.none _
      | refine LeO.ite ?_ ?_
      | refine LeO.bind ?_ (fun _ => ?_)
set_option maxHeartbeats 8000000 in
set_option maxRecDepth 100000 in
theorem digest_Adler.calls (k : Nat) (P0_ : Nat → Prop) (A0 : Option Addr) (c0 : Nat) (l0 : List Int) (r : Int) (w : World) (hs0 : Kd.V (Kd.int .u8) 5 w w.heap.size (fun k_ => P0_ k_) (.slice A0 l0.length c0) l0) (h : digest_Adler.f k l0 = some r) :
    Calls Try.prog 16 #[.slice A0 l0.length c0] w fun e w' => e = .returned (.int .u32 r) ∧ Below w.heap.size w w' := by
  have HO0 := Aside0.mk (show Kd.V (Kd.int .u8) 5 w w.heap.size (fun k_ => (P0_ k_ ∨ w.heap.size ≤ k_)) (.slice A0 l0.length c0) l0 from Kd.V_mono hs0 (fun k_ hk => .inl hk))
  have HB := Aside0.mk (Below.refl w.heap.size w)
  have H : (digest_Adler.l0 k l0 1 0) = some r := h
  clear h
  have H' := Aside0.mk H
  clear H
  go_enter Try.func16, Try.ntmps16
  go_wp2
  repeat (go_quiet (fail); try go_wp2)
  go_loopg [0, 3, 4] k (fun kq v0 v3 v4 w' => ∃ (x0_1 : List Int) (x3_1 : Int) (x4_1 : Int), v3 = .int .i64 x3_1 ∧ v4 = .int .i64 x4_1 ∧ Aside0 (digest_Adler.l0 kq x0_1 x3_1 x4_1 = some r) ∧ Aside0 (kq ≤ k) ∧ Aside0 (Kd.V (Kd.int .u8) 5 w' w.heap.size (fun k_ => (P0_ k_ ∨ w.heap.size ≤ k_)) v0 x0_1) ∧ Aside0 (Below w.heap.size w w'))
  case atStart => exact ⟨(l0), (1), (0), (by first | rfl | (simp; done) | (simp [*]; done)), (by first | rfl | (simp; done) | (simp [*]; done)), H', ⟨Nat.le_refl _⟩, ⟨by (with_reducible repeat (first | apply Kd.V_alloc | apply Kd.V_drewN | apply Kd.V_drew)); exact HO0.out⟩, ⟨by repeat (first | (with_reducible first | exact HB.out | apply below_alloc | apply pw_below_drewN | apply below_drew1) | exact HB.out)⟩⟩
  case round =>
    clear H'
    try clear c1
    obtain ⟨x0_1, x3_1, x4_1, rfl, rfl, HA, HK1, HO_0, HB⟩ := hrel
    cases gk with
    | zero => exact absurd HA.out (by simp [digest_Adler.l0])
    | succ k1 =>
      have H := HA.out
      clear HA
      simp only [digest_Adler.l0] at H
      by_cases c2 : (x0_1.length : Int) > 0
      · rw [if_pos c2] at H
        have c2b0 : decide (0 < (x0_1.length : Int)) = true := decide_eq_true c2
        have c2b1 : decide (0 < x0_1.length) = true := decide_eq_true (by omega)
        clear c2
        obtain ⟨ji3, hji3⟩ : ∃ j_ : Int, (mn (x0_1.length : Int) 3000) = j_ := ⟨_, rfl⟩
        replace H : (if 0 ≤ (ji3) then (if (ji3) ≤ (x0_1.length : Int) then ((some (x0_1.take ((ji3) : Int).toNat : List Int)).bind fun y116 => (digest_Adler.l1 k1 x0_1 x3_1 x4_1 y116 y116 (y116.length : Int) 0)) else (none)) else (none)) = some r := by first | (rw [hji3] at H; exact H) | (simp only [hji3] at H ⊢; exact H)
        have hji3_ : (if 3000 < (x0_1.length : Int) then 3000 else (x0_1.length : Int)) = ji3 := hji3
        by_cases c4 : 0 ≤ (ji3)
        · rw [if_pos c4] at H
          have c4b0 := eq_true c4
          have c4b1 : decide (0 ≤ (ji3)) = true := decide_eq_true c4
          clear c4
          by_cases c5 : (ji3) ≤ (x0_1.length : Int)
          · rw [if_pos c5] at H
            have c5b0 := eq_true c5
            have c5b1 : decide ((ji3) ≤ (x0_1.length : Int)) = true := decide_eq_true c5
            clear c5
            obtain ⟨y116, hy116⟩ : ∃ y_ : List Int, y_ = (x0_1.take ((ji3) : Int).toNat) := ⟨_, rfl⟩
            replace H : (digest_Adler.l1 k1 x0_1 x3_1 x4_1 y116 y116 (y116.length : Int) 0) = some r := by first | (rw [hy116]; with_reducible exact H) | (have H2_ := (Option.bind_some _ _).symm.trans H; rw [hy116]; with_reducible exact H2_) | (have H2_ := (Option.bind_some _ _).symm.trans H; with_reducible exact H2_) | with_reducible exact H | (rw [hy116]; exact H) | exact H
            have Ny116 := Aside0.mk hy116
            clear hy116
            have H' := Aside0.mk H
            clear H
            obtain ⟨Ao6, co6, eo6⟩ := Kd.V_slice HO_0.out
            subst eo6
            have q7 : ((ji3) : Int) ≤ ((x0_1.length : Int) : Int) := of_decide_eq_true (by first | (with_reducible assumption) | assumption)
            obtain ⟨i07, hi07, _, hsz7, _⟩ := info_parts info5
            have hroom7 : x0_1.length ≤ co6 := (Kd.V_reads' HO_0.out).2.1
            have hC7 : Kd.F (Kd.int .u8) _ _ Ao6 x0_1.length x0_1 := (Kd.V_at (base := w.heap.size) HO_0.out).2.2
            have hcut7 := cut_to (P := Try.prog) 22 5 .i64 Try.underlying22 hi07 Ao6 x0_1.length co6 (ji3) (of_decide_eq_true (by first | (with_reducible assumption) | assumption)) q7 hroom7
            have hr7 := Kd.F_take (m := ((ji3) : Int).toNat) hC7 (by omega)
            have hy7 : y116.length = ((ji3) : Int).toNat := (by rw [Ny116.out, List.length_take]; omega)
            rw [← Ny116.out] at hr7
            rw [← hy7] at hcut7
            have HO120 := Aside0.mk (show Kd.V (Kd.int .u8) 5 _ w.heap.size _ (.slice Ao6 y116.length co6) y116 from Kd.V_mk (by omega) hr7)
            have HC120 := Aside0.mk (show y116.length ≤ co6 from by omega)
            clear hr7 hC7 hroom7 hi07 hsz7
            have KY7 := Aside0.mk hy7
            clear hy7
            replace q7 := eq_true q7
            go_wp2
            repeat (go_quiet (fail); try go_wp2)
            go_loopg [3, 4, 18] k1 (fun kq v3 v4 v18 w' => ∃ (x3_2 : Int) (x4_2 : Int) (x18_2 : Int), v3 = .int .i64 x3_2 ∧ v4 = .int .i64 x4_2 ∧ v18 = .int .i64 x18_2 ∧ Aside0 (digest_Adler.l1 kq x0_1 x3_2 x4_2 y116 y116 (y116.length : Int) x18_2 = some r) ∧ Aside0 (kq ≤ k1) ∧ Aside0 (Kd.V (Kd.int .u8) 5 w' w.heap.size (fun k_ => (P0_ k_ ∨ w.heap.size ≤ k_)) (.slice Ao6 x0_1.length co6) x0_1) ∧ Aside0 (Kd.V (Kd.int .u8) 5 w' w.heap.size (fun k_ => (P0_ k_ ∨ w.heap.size ≤ k_)) (.slice Ao6 y116.length co6) y116) ∧ Aside0 (Kd.V (Kd.int .u8) 5 w' w.heap.size (fun k_ => (P0_ k_ ∨ w.heap.size ≤ k_)) (.slice Ao6 y116.length co6) y116) ∧ Aside0 (Below w.heap.size w w'))
            case atStart => exact ⟨(x3_1), (x4_1), (0), (by first | rfl | (simp; done) | (simp [*]; done)), (by first | rfl | (simp; done) | (simp [*]; done)), (by first | rfl | (simp; done) | (simp [*]; done)), H', ⟨Nat.le_refl _⟩, ⟨by (with_reducible repeat (first | apply Kd.V_alloc | apply Kd.V_drewN | apply Kd.V_drew)); exact HO_0.out⟩, ⟨by (with_reducible repeat (first | apply Kd.V_alloc | apply Kd.V_drewN | apply Kd.V_drew)); exact HO120.out⟩, ⟨by (with_reducible repeat (first | apply Kd.V_alloc | apply Kd.V_drewN | apply Kd.V_drew)); exact HO120.out⟩, ⟨by repeat (first | (with_reducible first | exact HB.out | apply below_alloc | apply pw_below_drewN | apply below_drew1) | exact HB.out)⟩⟩
            case round =>
              clear H'
              try clear c1
              try clear c2
              try clear c2b0
              try clear c2b1
              try clear p2
              try clear c4
              try clear c4b0
              try clear c4b1
              try clear c5
              try clear c5b0
              try clear c5b1
              try clear q7
              try clear q7
              obtain ⟨x3_2, x4_2, x18_2, rfl, rfl, rfl, HA, HK2, HO_0, HO_5, HO_16, HB⟩ := hrel
              cases gk with
              | zero => exact absurd HA.out (by simp [digest_Adler.l1])
              | succ k2 =>
                have H := HA.out
                clear HA
                simp only [digest_Adler.l1] at H
                by_cases c8 : x18_2 < (y116.length : Int)
                · rw [if_pos c8] at H
                  have c8b0 : decide (x18_2 < (y116.length : Int)) = true := decide_eq_true c8
                  clear c8
                  by_cases c9 : 0 ≤ x18_2
                  · rw [if_pos c9] at H
                    have c9b0 : decide (0 ≤ x18_2) = true := decide_eq_true c9
                    clear c9
                    by_cases c10 : x18_2 < (y116.length : Int)
                    · rw [if_pos c10] at H
                      have c10b0 : decide (x18_2 < (y116.length : Int)) = true := decide_eq_true c10
                      clear c10
                      have H' := Aside0.mk H
                      clear H
                      have p121 : 0 ≤ (x18_2 : Int) := of_decide_eq_true (by first | (with_reducible assumption) | assumption)
                      have q121 : x18_2 < (y116.length : Int) := of_decide_eq_true (by first | (with_reducible assumption) | assumption)
                      obtain ⟨ad121, e121, hx121_0⟩ := Kd.at_int (Kd.V_reads' HO_16.out).2.2 x18_2 p121 q121
                      cases e121
                      replace p121 := eq_true p121
                      replace q121 := eq_true q121
                      go_wp2
                      repeat (go_quiet (fail); try go_wp2)
                      go_roundg k2
                      case measure => have := HK1.out; have := HK2.out; omega
                      case rel => exact ⟨(wrap64 (x3_2 + (wrap64 (rd y116 x18_2)))), (wrap64 (x4_2 + (wrap64 (x3_2 + (wrap64 (rd y116 x18_2)))))), (wrap64 (x18_2 + 1)), (by first | rfl | (simp; done) | (simp [*]; done)), (by first | rfl | (simp; done) | (simp [*]; done)), (by first | rfl | (simp; done) | (simp [*]; done)), H', ⟨by have := HK1.out; have := HK2.out; omega⟩, ⟨by (with_reducible repeat (first | apply Kd.V_alloc | apply Kd.V_drewN | apply Kd.V_drew)); exact HO_0.out⟩, ⟨by (with_reducible repeat (first | apply Kd.V_alloc | apply Kd.V_drewN | apply Kd.V_drew)); exact HO_5.out⟩, ⟨by (with_reducible repeat (first | apply Kd.V_alloc | apply Kd.V_drewN | apply Kd.V_drew)); exact HO_16.out⟩, ⟨by repeat (first | (with_reducible first | exact HB.out | apply below_alloc | apply pw_below_drewN | apply below_drew1) | exact HB.out)⟩⟩
                    · rw [if_neg c10] at H
                      exact absurd H (by simp)
                  · rw [if_neg c9] at H
                    exact absurd H (by simp)
                · rw [if_neg c8] at H
                  have c8b0 : decide (x18_2 < (y116.length : Int)) = false := decide_eq_false c8
                  clear c8
                  by_cases c11 : 0 ≤ (y116.length : Int)
                  · rw [if_pos c11] at H
                    have c11b0 := eq_true c11
                    have c11b1 : decide (0 ≤ (y116.length : Int)) = true := decide_eq_true c11
                    clear c11
                    by_cases c12 : (y116.length : Int) ≤ (x0_1.length : Int)
                    · rw [if_pos c12] at H
                      have c12b0 := eq_true c12
                      have c12b1 : decide ((y116.length : Int) ≤ (x0_1.length : Int)) = true := decide_eq_true c12
                      clear c12
                      obtain ⟨y122, hy122⟩ : ∃ y_ : List Int, y_ = (x0_1.drop ((y116.length : Int) : Int).toNat) := ⟨_, rfl⟩
                      replace H : (digest_Adler.l0 k2 y122 (Int.tmod x3_2 65521) (Int.tmod x4_2 65521)) = some r := by first | (rw [hy122]; with_reducible exact H) | (have H2_ := (Option.bind_some _ _).symm.trans H; rw [hy122]; with_reducible exact H2_) | (have H2_ := (Option.bind_some _ _).symm.trans H; with_reducible exact H2_) | with_reducible exact H | (rw [hy122]; exact H) | exact H
                      have Ny122 := Aside0.mk hy122
                      clear hy122
                      have H' := Aside0.mk H
                      clear H
                      have q13 : ((y116.length : Int) : Int) ≤ ((x0_1.length : Int) : Int) := of_decide_eq_true (by first | (with_reducible assumption) | assumption)
                      obtain ⟨i013, hi013, _, hsz13, _⟩ := info_parts info5
                      have hroom13 : x0_1.length ≤ co6 := (Kd.V_reads' HO_0.out).2.1
                      have hC13 : Kd.F (Kd.int .u8) _ _ Ao6 x0_1.length x0_1 := (Kd.V_at (base := w.heap.size) HO_0.out).2.2
                      have q013 : (0 : Int) ≤ ((y116.length : Int) : Int) := of_decide_eq_true (by first | (with_reducible assumption) | assumption)
                      have hcut13 := cut_from (P := Try.prog) 22 5 .i64 Try.underlying22 hi013 1 hsz13 Ao6 x0_1.length co6 (y116.length : Int) q013 q13
                      have hr13 := Kd.F_cut (m := ((y116.length : Int) : Int).toNat) (c := co6) hC13 (by omega) hroom13
                      obtain ⟨A13, hA13⟩ : ∃ A1, A1 = (if co6 = ((y116.length : Int) : Int).toNat then Ao6 else (Ao6 : Option Addr).map (·.add (((y116.length : Int) : Int).toNat * 1))) := ⟨_, rfl⟩
                      obtain ⟨c13, hc13⟩ : ∃ c1, c1 = co6 - ((y116.length : Int) : Int).toNat := ⟨_, rfl⟩
                      have hy13 : y122.length = x0_1.length - ((y116.length : Int) : Int).toNat := (by rw [Ny122.out, List.length_drop] <;> omega)
                      rw [show (x0_1).drop ((y116.length : Int) : Int).toNat = y122 from Ny122.out.symm] at hr13
                      replace hr13 : Kd.F (Kd.int .u8) _ _ A13 y122.length y122 := (by rw [hA13]; exact hr13)
                      rw [← hy13, ← hA13, ← hc13] at hcut13
                      have HO126 := Aside0.mk (show Kd.V (Kd.int .u8) 5 _ w.heap.size _ (.slice A13 y122.length c13) y122 from Kd.V_mk (by rw [hy13, hc13]; exact Nat.sub_le_sub_right hroom13 _) hr13)
                      have HC126 := Aside0.mk (show y122.length ≤ c13 from by rw [hy13, hc13]; exact Nat.sub_le_sub_right hroom13 _)
                      clear hr13 hC13 hroom13 hi013 hsz13 hc13
                      have KY13 := Aside0.mk hy13
                      have KA13 := Aside0.mk hA13
                      clear hy13 hA13
                      replace q13 := eq_true q13
                      go_wp2
                      repeat (go_quiet (fail); try go_wp2)
                      go_roundg k2
                      case measure => have := HK1.out; have := HK2.out; omega
                      case rel => exact ⟨(y122), (Int.tmod x3_2 65521), (Int.tmod x4_2 65521), (by first | rfl | (simp; done) | (simp [*]; done)), (by first | rfl | (simp; done) | (simp [*]; done)), H', ⟨by have := HK1.out; have := HK2.out; omega⟩, ⟨by (with_reducible repeat (first | apply Kd.V_alloc | apply Kd.V_drewN | apply Kd.V_drew)); exact HO126.out⟩, ⟨by repeat (first | (with_reducible first | exact HB.out | apply below_alloc | apply pw_below_drewN | apply below_drew1) | exact HB.out)⟩⟩
                    · rw [if_neg c12] at H
                      exact absurd H (by simp)
                  · rw [if_neg c11] at H
                    exact absurd H (by simp)
          · rw [if_neg c5] at H
            exact absurd H (by simp)
        · rw [if_neg c4] at H
          exact absurd H (by simp)
      · rw [if_neg c2] at H
        have c2b0 : decide (0 < (x0_1.length : Int)) = false := decide_eq_false c2
        have c2b1 : decide (0 < x0_1.length) = false := decide_eq_false (by omega)
        clear c2
        obtain rfl := Option.some.inj H
        obtain ⟨Ao14, co14, eo14⟩ := Kd.V_slice HO_0.out
        subst eo14
        go_wp2
        repeat (go_quiet (fail); try go_wp2)
        go_ret
        exact ⟨by first | rfl | (simp [errW_none, errW_some] <;> rfl) | (simp [*, errW_none, errW_some] <;> rfl), by repeat (first | (with_reducible first | exact HB.out | apply below_alloc | apply pw_below_drewN | apply below_drew1) | exact HB.out)⟩

end Go.Proofs.Ytnkcdopjhjmdnaa.QB
