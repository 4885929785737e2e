/- What functions of the translation come to, each as a Lean function, and a proof that the call comes to just that; or a law's row, out of its plain law. Written by mp.py, a program of this session, which runs the printer of the kit with stand-in bodies for some library functions. -/
import Derived.Test.YtnhfkiiknmnjgaaQBx0
import Derived.Test.YtnhfkiiknmnjgaaQBx4
import Derived.Test.YtnhfkiiknmnjgaaQBx5
namespace Go.Proofs.Ytnhfkiiknmnjgaa.QB
open Go.RowKit Go.Proofs.YtnhfkiiknmnjgaaW.PrintWords Go.Proofs.YtnhfkiiknmnjgaaW.PrintLast Go.Proofs.YtnhfkiiknmnjgaaW.PrintMore
attribute [local go_sem] max2_int min2_int max_two min_two max_three min_three max_four min_four   -- for this text's walks alone
set_option linter.unusedVariables false
set_option linter.unusedSimpArgs false

/-! ### thermographlaw03_BitsOne: function 7 -/
def thermographlaw03_BitsOne.j0 : Nat → Int → Int → Int → List Int → Bool → Option (Bool)
  | 0, _, _, _, _, _ => none
  | k + 1, x0, x2, x3, x9, x52 => if x52 = true then (some false) else (if 0 ≤ (wrap64 ((x9.length : Int) - 1)) then (if (wrap64 ((x9.length : Int) - 1)) ≤ (x9.length : Int) then ((bits_ReadUvarint.f k (x9.take ((wrap64 ((x9.length : Int) - 1)) : Int).toNat)).bind fun bt194 => (if (x9.length : Int) = 0 then (none) else (if 0 ≤ (Int.tmod (wrap64 ((Int.tmod x2 (x9.length : Int)) + (x9.length : Int))) (x9.length : Int)) then (if (Int.tmod (wrap64 ((Int.tmod x2 (x9.length : Int)) + (x9.length : Int))) (x9.length : Int)) < (x9.length : Int) then ((bits_ReadUvarint.f k (x9.set ((Int.tmod (wrap64 ((Int.tmod x2 (x9.length : Int)) + (x9.length : Int))) (x9.length : Int)) : Int).toNat (((rd x9 (Int.tmod (wrap64 ((Int.tmod x2 (x9.length : Int)) + (x9.length : Int))) (x9.length : Int))) + x3) % 256))).bind fun bt198 => (if bt194.2 = 0 then (if x3 = 0 then (some true) else (if bt198.1 = x0 then (some (bt198.2 != (x9.length : Int))) else (some true))) else (some false))) else (none)) else (none)))) else (none)) else (none))
def thermographlaw03_BitsOne.f (k : Nat) (a0 : Int) (l1 : List Int) (a2 : Int) (a3 : Int) : Option (Bool) := if (l1.length : Int) > 4096 then (some true) else ((bits_Uvarint.f k ([] : List Int) a0).bind fun t176 => ((some (([] : List Int) : List Int)).bind fun y179 => (if y179.length + t176.length < 140737488355328 then ((some (y179 ++ t176 : List Int)).bind fun y182 => (if y182.length + l1.length < 140737488355328 then ((bits_ReadUvarint.f k (y182 ++ l1)).bind fun bt188 => (if bt188.1 = a0 then (if bt188.2 = (t176.length : Int) then (if (t176.length : Int) < 1 then (thermographlaw03_BitsOne.j0 k a0 a2 a3 t176 true) else (thermographlaw03_BitsOne.j0 k a0 a2 a3 t176 (decide ((t176.length : Int) > 10)))) else (thermographlaw03_BitsOne.j0 k a0 a2 a3 t176 true)) else (thermographlaw03_BitsOne.j0 k a0 a2 a3 t176 true))) else (none))) else (none))))
theorem thermographlaw03_BitsOne.mono_l : ∀ k, (∀ y0 y1 y2 y3 y4, LeO (thermographlaw03_BitsOne.j0 k y0 y1 y2 y3 y4) (thermographlaw03_BitsOne.j0 (k + 1) y0 y1 y2 y3 y4))
  | 0 => fun _ _ _ _ _ r h => by simp [thermographlaw03_BitsOne.j0] at h
  | k + 1 => by
    have ih0 := thermographlaw03_BitsOne.mono_l k
    · intro y0 y1 y2 y3 y4
      unfold thermographlaw03_BitsOne.j0
      repeat' first
      | (with_reducible exact ih0 _ _ _ _ _)
      | (with_reducible exact bits_ReadUvarint.mono _ _)
      | (with_reducible exact bits_Uvarint.mono _ _ _)
      | (with_reducible exact LeO.refl _)
      | (with_reducible exact LeO.none _)
      | (with_reducible refine LeO.ite ?_ ?_)
      | (with_reducible refine LeO.bind ?_ (fun _ => ?_))
      | exact ih0 _ _ _ _ _
      | exact bits_ReadUvarint.mono _ _
      | exact bits_Uvarint.mono _ _ _
      | exact LeO.none _
      | refine LeO.ite ?_ ?_
      | refine LeO.bind ?_ (fun _ => ?_)
theorem thermographlaw03_BitsOne.mono : ∀ a0 a1 a2 a3 k, LeO (thermographlaw03_BitsOne.f k a0 a1 a2 a3) (thermographlaw03_BitsOne.f (k + 1) a0 a1 a2 a3) := by
  intro a0 a1 a2 a3 k
  have ih0 := thermographlaw03_BitsOne.mono_l k
  unfold thermographlaw03_BitsOne.f
  repeat' first
      | (with_reducible exact ih0 _ _ _ _ _)
      | (with_reducible exact bits_ReadUvarint.mono _ _)
      | (with_reducible exact bits_Uvarint.mono _ _ _)
      | (with_reducible exact LeO.refl _)
      | (with_reducible exact LeO.none _)
      | (with_reducible refine LeO.ite ?_ ?_)
      | (with_reducible refine LeO.bind ?_ (fun _ => ?_))
      | exact ih0 _ _ _ _ _
      | exact bits_ReadUvarint.mono _ _
      | exact bits_Uvarint.mono _ _ _
      | exact LeO.none _
      | refine LeO.ite ?_ ?_
      | refine LeO.bind ?_ (fun _ => ?_)
set_option maxHeartbeats 8000000 in
set_option maxRecDepth 100000 in
theorem thermographlaw03_BitsOne.calls (k : Nat) (a0 : Int) (A1 : Option Addr) (c1 : Nat) (l1 : List Int) (a2 : Int) (a3 : Int) (r : Bool) (w : World) (hr1 : Kd.C (Kd.int .u8) w A1 l1.length l1) (hc1 : l1.length ≤ c1) (h : thermographlaw03_BitsOne.f k a0 l1 a2 a3 = some r) :
    Calls Try.prog 7 #[.int .u64 a0, .slice A1 l1.length c1, .int .i64 a2, .int .u8 a3] w fun e w' => e = .returned (.bool r) ∧ Below w.heap.size w w' := by
  have HR1 := Aside0.mk hr1
  have HC1 := Aside0.mk hc1
  clear hr1 hc1
  have HB := Aside0.mk (Below.refl w.heap.size w)
  have H : (if (l1.length : Int) > 4096 then (some true) else ((bits_Uvarint.f k ([] : List Int) a0).bind fun t176 => ((some (([] : List Int) : List Int)).bind fun y179 => (if y179.length + t176.length < 140737488355328 then ((some (y179 ++ t176 : List Int)).bind fun y182 => (if y182.length + l1.length < 140737488355328 then ((bits_ReadUvarint.f k (y182 ++ l1)).bind fun bt188 => (if bt188.1 = a0 then (if bt188.2 = (t176.length : Int) then (if (t176.length : Int) < 1 then (thermographlaw03_BitsOne.j0 k a0 a2 a3 t176 true) else (thermographlaw03_BitsOne.j0 k a0 a2 a3 t176 (decide ((t176.length : Int) > 10)))) else (thermographlaw03_BitsOne.j0 k a0 a2 a3 t176 true)) else (thermographlaw03_BitsOne.j0 k a0 a2 a3 t176 true))) else (none))) else (none))))) = some r := h
  clear h
  by_cases c5 : (l1.length : Int) > 4096
  · rw [if_pos c5] at H
    have c5b0 : decide (4096 < (l1.length : Int)) = true := decide_eq_true c5
    have c5b1 : decide (4096 < l1.length) = true := decide_eq_true (by omega)
    clear c5
    obtain rfl := Option.some.inj H
    go_enter Try.func7, Try.ntmps7
    go_wp2
    go_ret
    exact ⟨by first | rfl | (simp [errW_none, errW_some] <;> rfl) | (simp [*, errW_none, errW_some] <;> rfl), by repeat (first | (with_reducible first | exact HB.out | apply below_alloc | apply pw_below_drewN | apply below_drew1) | exact HB.out)⟩
  · rw [if_neg c5] at H
    have c5b0 : decide (4096 < (l1.length : Int)) = false := decide_eq_false c5
    have c5b1 : decide (4096 < l1.length) = false := decide_eq_false (by omega)
    clear c5
    replace H := Option.bind_eq_some_iff.mp H
    obtain ⟨t176, A60, H⟩ := H
    replace H : ((some (([] : List Int) : List Int)).bind fun y179 => (if y179.length + t176.length < 140737488355328 then ((some (y179 ++ t176 : List Int)).bind fun y182 => (if y182.length + l1.length < 140737488355328 then ((bits_ReadUvarint.f k (y182 ++ l1)).bind fun bt188 => (if bt188.1 = a0 then (if bt188.2 = (t176.length : Int) then (if (t176.length : Int) < 1 then (thermographlaw03_BitsOne.j0 k a0 a2 a3 t176 true) else (thermographlaw03_BitsOne.j0 k a0 a2 a3 t176 (decide ((t176.length : Int) > 10)))) else (thermographlaw03_BitsOne.j0 k a0 a2 a3 t176 true)) else (thermographlaw03_BitsOne.j0 k a0 a2 a3 t176 true))) else (none))) else (none))) = some r := H
    have A6 := Aside0.mk A60
    clear A60
    obtain ⟨y179, hy179⟩ : ∃ y_ : List Int, y_ = (([] : List Int)) := ⟨_, rfl⟩
    replace H : (if y179.length + t176.length < 140737488355328 then ((some (y179 ++ t176 : List Int)).bind fun y182 => (if y182.length + l1.length < 140737488355328 then ((bits_ReadUvarint.f k (y182 ++ l1)).bind fun bt188 => (if bt188.1 = a0 then (if bt188.2 = (t176.length : Int) then (if (t176.length : Int) < 1 then (thermographlaw03_BitsOne.j0 k a0 a2 a3 t176 true) else (thermographlaw03_BitsOne.j0 k a0 a2 a3 t176 (decide ((t176.length : Int) > 10)))) else (thermographlaw03_BitsOne.j0 k a0 a2 a3 t176 true)) else (thermographlaw03_BitsOne.j0 k a0 a2 a3 t176 true))) else (none))) else (none)) = some r := by first | (rw [hy179]; with_reducible exact H) | (have H2_ := (Option.bind_some _ _).symm.trans H; rw [hy179]; with_reducible exact H2_) | (have H2_ := (Option.bind_some _ _).symm.trans H; with_reducible exact H2_) | with_reducible exact H | (rw [hy179]; exact H) | exact H
    have Ny179 := Aside0.mk hy179
    clear hy179
    by_cases c7 : y179.length + t176.length < 140737488355328
    · rw [if_pos c7] at H
      have LMc7 := Aside0.mk c7
      clear c7
      obtain ⟨y182, hy182⟩ : ∃ y_ : List Int, y_ = (y179 ++ t176) := ⟨_, rfl⟩
      replace H : (if y182.length + l1.length < 140737488355328 then ((bits_ReadUvarint.f k (y182 ++ l1)).bind fun bt188 => (if bt188.1 = a0 then (if bt188.2 = (t176.length : Int) then (if (t176.length : Int) < 1 then (thermographlaw03_BitsOne.j0 k a0 a2 a3 t176 true) else (thermographlaw03_BitsOne.j0 k a0 a2 a3 t176 (decide ((t176.length : Int) > 10)))) else (thermographlaw03_BitsOne.j0 k a0 a2 a3 t176 true)) else (thermographlaw03_BitsOne.j0 k a0 a2 a3 t176 true))) else (none)) = some r := by first | (rw [hy182]; with_reducible exact H) | (have H2_ := (Option.bind_some _ _).symm.trans H; rw [hy182]; with_reducible exact H2_) | (have H2_ := (Option.bind_some _ _).symm.trans H; with_reducible exact H2_) | with_reducible exact H | (rw [hy182]; exact H) | exact H
      have Ny182 := Aside0.mk hy182
      clear hy182
      by_cases c8 : y182.length + l1.length < 140737488355328
      · rw [if_pos c8] at H
        have LMc8 := Aside0.mk c8
        clear c8
        obtain ⟨y185, hy185⟩ : ∃ y_ : List Int, y_ = (y182 ++ l1) := ⟨_, rfl⟩
        replace H : ((bits_ReadUvarint.f k y185).bind fun bt188 => (if bt188.1 = a0 then (if bt188.2 = (t176.length : Int) then (if (t176.length : Int) < 1 then (thermographlaw03_BitsOne.j0 k a0 a2 a3 t176 true) else (thermographlaw03_BitsOne.j0 k a0 a2 a3 t176 (decide ((t176.length : Int) > 10)))) else (thermographlaw03_BitsOne.j0 k a0 a2 a3 t176 true)) else (thermographlaw03_BitsOne.j0 k a0 a2 a3 t176 true))) = some r := by first | (rw [hy185]; with_reducible exact H) | (have H2_ := (Option.bind_some _ _).symm.trans H; rw [hy185]; with_reducible exact H2_) | (have H2_ := (Option.bind_some _ _).symm.trans H; with_reducible exact H2_) | with_reducible exact H | (rw [hy185]; exact H) | exact H
        have Ny185 := Aside0.mk hy185
        clear hy185
        replace H := Option.bind_eq_some_iff.mp H
        obtain ⟨⟨t188, t189⟩, A90, H⟩ := H
        replace H : (if t188 = a0 then (if t189 = (t176.length : Int) then (if (t176.length : Int) < 1 then (thermographlaw03_BitsOne.j0 k a0 a2 a3 t176 true) else (thermographlaw03_BitsOne.j0 k a0 a2 a3 t176 (decide ((t176.length : Int) > 10)))) else (thermographlaw03_BitsOne.j0 k a0 a2 a3 t176 true)) else (thermographlaw03_BitsOne.j0 k a0 a2 a3 t176 true)) = some r := H
        have A9 := Aside0.mk A90
        clear A90
        have HC10 := Aside0.mk H
        clear H
        go_enter Try.func7, Try.ntmps7
        go_upto_region 8 with (first | ((with_reducible refine gate_callee (f := 25) rfl ?_); refine goesL_ (some 21) rfl rfl Try.func25 (by kernel_rfl) rfl #[.slice none 0 0, .int .u64 a0] rfl (by (try simp only [List.map_toArray, List.map_cons, List.map_nil]); first | done | rfl | (simp only [List.length_drop, List.length_take]; rfl)) ?_; (refine (bits_Uvarint.calls k _ _ ([] : List Int) a0 t176 _ ?side1 ?side2 A6.out).mono ?_); (case side1 => exact Kd.C_nil _ _); (case side2 => exact Nat.le_refl _); rintro e w11 ⟨v177, rfl, ho0, hb⟩; refine ⟨_, rfl, ?_⟩; have n0_ := Aside0.mk (Kd.R_lower ho0 (below_size (by repeat (first | (with_reducible first | exact HB.out | apply below_alloc | apply pw_below_drewN | apply below_drew1) | exact HB.out)))); have n1_ := Aside0.mk (below_step (by repeat (first | (with_reducible first | exact HB.out | apply below_alloc | apply pw_below_drewN | apply below_drew1) | exact HB.out)) hb); clear HB; have HO178 := n0_; have HB := n1_; clear n0_ n1_; (try clear hb); (try clear hb2); (try clear hk); (try clear hi); (try clear ho0)) | ((with_reducible refine gate_dst (N := 22) rfl ?_); (try (refine gate_guard (by rfl) ?_; dsimp only)); refine Kd.R_lit (Kd.int .u8) _ 5 ?hg (N := 22) ?hd (xs := ([] : List Int)) (inner := []) (ok := fun _ => True) (okp := fun _ => True) ?hr ?hp (fun _ hk => hk) trivial (Below.refl _ _) (Nat.le_refl _) (by simp) ?_; (case hd => rfl); (case hg => rfl); (case hr => first | (go_simp; done) | (go_simp; rfl)); (case hp => exact (Reps.none _ _)); intro v180 w12 ho13 hb hg_ hnew_; clear hg_ hnew_; (first | rw [← Ny179.out] at ho13 | (simp only [Int.reduceToNat] at ho13; rw [← Ny179.out] at ho13)); have n0_ := Aside0.mk (Kd.R_elder' (by (with_reducible repeat (first | apply Kd.R_alloc | apply Kd.R_drewN | apply Kd.R_drew)); exact HO178.out) (Kd.R_base ho13) hb); have n1_ := Aside0.mk (Kd.R_lower (Kd.R_new' ho13 (Kd.R_lt (by (with_reducible repeat (first | apply Kd.R_alloc | apply Kd.R_drewN | apply Kd.R_drew)); exact HO178.out))) (below_size (by repeat (first | (with_reducible first | exact HB.out | apply below_alloc | apply pw_below_drewN | apply below_drew1) | exact HB.out)))); have n2_ := Aside0.mk (below_step (by repeat (first | (with_reducible first | exact HB.out | apply below_alloc | apply pw_below_drewN | apply below_drew1) | exact HB.out)) hb); clear HO178; clear HB; have HO178 := n0_; have HO181 := n1_; have HB := n2_; clear n0_ n1_ n2_; clear hb ho13; obtain ⟨Ao15, co15, eo15⟩ := Kd.R_slice HO178.out; subst eo15) | ((with_reducible refine gate_builtin (b := .append) (xs := #[.tmp 23, .tmp 24]) rfl ?_); (try (refine gate_guard (by rfl) ?_; dsimp only)); at_builtin; refine Kd.R_append_rows (Kd.int .u8) (w0 := w) w.heap.size rfl (.tmp 23) (.tmp 24) 26 5 (.int .u8 0) 1 rfl Try.underlying26 info5 rfl (by decide) (by omega) v180 y179 t176 _ _ _ (fun k_ => some k_ ≠ (.slice Ao15 t176.length co15 : Value).ownBlock) (fun _ => False) rfl rfl ?aO ?aR (fun _ _ h => h) (fun _ h => h.elim) ?aF ?aB ?aS ?aL ?_; (case aR => repeat (first | exact (Kd.R_reads' HO178.out).2.2 | (with_reducible refine Kd.C_alloc ?_ _) | (with_reducible refine Kd.C_drewN ?_ _) | (with_reducible refine Kd.C_drew ?_))); (case aB => exact (by repeat (first | (with_reducible first | exact HB.out | apply below_alloc | apply pw_below_drewN | apply below_drew1) | exact HB.out))); (case aF => exact (fun k_ hk => Kd.fresh' (Kd.R_lt (by (with_reducible repeat (first | apply Kd.R_alloc | apply Kd.R_drewN | apply Kd.R_drew)); exact HO178.out)) k_ hk)); (case aO => exact (by (with_reducible repeat (first | apply Kd.R_alloc | apply Kd.R_drewN | apply Kd.R_drew)); exact Kd.R_mono HO181.out (fun _ hk => hk.2))); (case aS => exact (below_size (by repeat (first | (with_reducible first | exact HB.out | apply below_alloc | apply pw_below_drewN | apply below_drew1) | exact HB.out)))); (case aL => have := LMc7.out; omega); intro v183 w14 ho hb hg hat; rw [← Ny182.out] at ho; have n0_ := Aside0.mk (Kd.R_after (ok := (fun _ => True)) (by (with_reducible repeat (first | apply Kd.R_alloc | apply Kd.R_drewN | apply Kd.R_drew)); exact HO178.out) hg hat); have n1_ := Aside0.mk (hb); have n2_ := Aside0.mk (ho); clear HO178; clear HB; clear HO181; have HO178 := n0_; have HB := n1_; have HO184 := n2_; clear n0_ n1_ n2_; clear ho hb hg hat) | ((with_reducible refine gate_builtin (b := .append) (xs := #[.tmp 26, .tmp 27]) rfl ?_); (try (refine gate_guard (by rfl) ?_; dsimp only)); at_builtin; refine Kd.R_append_rows (Kd.int .u8) (w0 := w) w.heap.size rfl (.tmp 26) (.tmp 27) 26 5 (.int .u8 0) 1 rfl Try.underlying26 info5 rfl (by decide) (by omega) v183 y182 l1 _ _ _ (fun k_ => some k_ ≠ (.slice Ao15 t176.length co15 : Value).ownBlock) (fun _ => False) rfl rfl ?aO ?aR (fun _ _ h => h) (fun _ h => h.elim) ?aF ?aB ?aS ?aL ?_; (case aR => repeat (first | exact (Kd.C_below HR1.out HB.out) | (with_reducible refine Kd.C_alloc ?_ _) | (with_reducible refine Kd.C_drewN ?_ _) | (with_reducible refine Kd.C_drew ?_))); (case aB => exact (by repeat (first | (with_reducible first | exact HB.out | apply below_alloc | apply pw_below_drewN | apply below_drew1) | exact HB.out))); (case aF => exact (fun k_ hk => Kd.fresh' (Kd.R_lt (by (with_reducible repeat (first | apply Kd.R_alloc | apply Kd.R_drewN | apply Kd.R_drew)); exact HO178.out)) k_ hk)); (case aO => exact (by (with_reducible repeat (first | apply Kd.R_alloc | apply Kd.R_drewN | apply Kd.R_drew)); exact HO184.out)); (case aS => exact (below_size (by repeat (first | (with_reducible first | exact HB.out | apply below_alloc | apply pw_below_drewN | apply below_drew1) | exact HB.out)))); (case aL => have := LMc8.out; omega); intro v186 w16 ho hb hg hat; rw [← Ny185.out] at ho; have n0_ := Aside0.mk (Kd.R_after (ok := (fun _ => True)) (by (with_reducible repeat (first | apply Kd.R_alloc | apply Kd.R_drewN | apply Kd.R_drew)); exact HO178.out) hg hat); have n1_ := Aside0.mk (hb); have n2_ := Aside0.mk (ho); clear HO178; clear HB; clear HO184; have HO178 := n0_; have HB := n1_; have HO187 := n2_; clear n0_ n1_ n2_; clear ho hb hg hat; obtain ⟨Ao17, co17, eo17⟩ := Kd.R_slice HO187.out; subst eo17) | ((with_reducible refine gate_callee (f := 26) rfl ?_); refine goesL_ (some 31) rfl rfl Try.func26 (by kernel_rfl) rfl #[.slice Ao17 y185.length co17] rfl (by (try simp only [List.map_toArray, List.map_cons, List.map_nil]); first | done | rfl | (simp only [List.length_drop, List.length_take]; rfl)) ?_; (with_reducible refine (bits_ReadUvarint.calls k _ _ y185 t188 t189 _ ?side1 ?side2 A9.out).mono ?_); (case side1 => repeat (first | exact (Kd.R_reads' HO187.out).2.2 | (with_reducible refine Kd.C_alloc ?_ _) | (with_reducible refine Kd.C_drewN ?_ _) | (with_reducible refine Kd.C_drew ?_))); (case side2 => exact (Kd.R_reads' HO187.out).2.1); rintro e w' ⟨rfl, ⟨nd, rfl⟩⟩; refine ⟨_, rfl, ?_⟩))
        (try simp only [Act.put, List.setIfInBounds_toArray, List.set_cons_zero, List.set_cons_succ])
        go_cut [52] (fun v52 wc => ∃ (kq : Nat) (x52_9 : Bool), v52 = .bool x52_9 ∧ Aside0 (thermographlaw03_BitsOne.j0 kq a0 a2 a3 t176 x52_9 = some r) ∧ Aside0 (kq ≤ k) ∧ Aside0 (Kd.R (Kd.int .u8) 5 wc w.heap.size (fun _ => True) (.slice Ao15 t176.length co15) t176) ∧ Aside0 (Below w.heap.size w wc))
        case first =>
          have H := HC10.out
          clear HC10
          by_cases c18 : t188 = a0
          · rw [if_pos c18] at H
            have c18b0 : (t188 == a0) = true := beq_iff_eq.mpr c18
            have c18b1 : (t188 != a0) = false := bne_eq_false_iff_eq.mpr c18
            clear c18
            (first | rw [c18b0] | (simp only [i64_w, i32_w]; rw [c18b0]) | skip)
            by_cases c19 : t189 = (t176.length : Int)
            · rw [if_pos c19] at H
              have c19b0 : (t189 == (t176.length : Int)) = true := beq_iff_eq.mpr c19
              have c19b1 : (t189 != (t176.length : Int)) = false := bne_eq_false_iff_eq.mpr c19
              clear c19
              by_cases c20 : (t176.length : Int) < 1
              · rw [if_pos c20] at H
                have c20b0 : decide ((t176.length : Int) < 1) = true := decide_eq_true c20
                have c20b1 : decide (t176.length < 1) = true := decide_eq_true (by omega)
                clear c20
                have H' := Aside0.mk H
                clear H
                go_wp2
                go_meet
                case rel => exact ⟨_, (true), (by first | rfl | (simp; done) | (simp [*]; done)), H', ⟨by first | omega | exact Nat.le_refl _⟩, ⟨by (with_reducible repeat (first | apply Kd.R_alloc | apply Kd.R_drewN | apply Kd.R_drew)); exact Kd.R_mono HO178.out (fun _ hk => trivial)⟩, ⟨by repeat (first | (with_reducible first | exact HB.out | apply below_alloc | apply pw_below_drewN | apply below_drew1) | exact HB.out)⟩⟩
              · rw [if_neg c20] at H
                have c20b0 : decide ((t176.length : Int) < 1) = false := decide_eq_false c20
                have c20b1 : decide (t176.length < 1) = false := decide_eq_false (by omega)
                clear c20
                have H' := Aside0.mk H
                clear H
                go_wp2
                go_meet
                case rel => exact ⟨_, (decide ((t176.length : Int) > 10)), (by first | rfl | (simp; done) | (simp [*]; done)), H', ⟨by first | omega | exact Nat.le_refl _⟩, ⟨by (with_reducible repeat (first | apply Kd.R_alloc | apply Kd.R_drewN | apply Kd.R_drew)); exact Kd.R_mono HO178.out (fun _ hk => trivial)⟩, ⟨by repeat (first | (with_reducible first | exact HB.out | apply below_alloc | apply pw_below_drewN | apply below_drew1) | exact HB.out)⟩⟩
            · rw [if_neg c19] at H
              have c19b0 : (t189 == (t176.length : Int)) = false := beq_eq_false_iff_ne.mpr c19
              have c19b1 : (t189 != (t176.length : Int)) = true := bne_iff_ne.mpr c19
              have H' := Aside0.mk H
              clear H
              go_wp2
              go_meet
              case rel => exact ⟨_, (true), (by first | rfl | (simp; done) | (simp [*]; done)), H', ⟨by first | omega | exact Nat.le_refl _⟩, ⟨by (with_reducible repeat (first | apply Kd.R_alloc | apply Kd.R_drewN | apply Kd.R_drew)); exact Kd.R_mono HO178.out (fun _ hk => trivial)⟩, ⟨by repeat (first | (with_reducible first | exact HB.out | apply below_alloc | apply pw_below_drewN | apply below_drew1) | exact HB.out)⟩⟩
          · rw [if_neg c18] at H
            have c18b0 : (t188 == a0) = false := beq_eq_false_iff_ne.mpr c18
            have c18b1 : (t188 != a0) = true := bne_iff_ne.mpr c18
            (first | rw [c18b0] | (simp only [i64_w, i32_w]; rw [c18b0]) | skip)
            have H' := Aside0.mk H
            clear H
            go_wp2
            go_meet
            case rel => exact ⟨_, (true), (by first | rfl | (simp; done) | (simp [*]; done)), H', ⟨by first | omega | exact Nat.le_refl _⟩, ⟨by (with_reducible repeat (first | apply Kd.R_alloc | apply Kd.R_drewN | apply Kd.R_drew)); exact Kd.R_mono HO178.out (fun _ hk => trivial)⟩, ⟨by repeat (first | (with_reducible first | exact HB.out | apply below_alloc | apply pw_below_drewN | apply below_drew1) | exact HB.out)⟩⟩
        case rest =>
          clear HC10
          try clear c1
          try clear c2
          try clear p2
          try clear c5
          try clear c5b0
          try clear c5b1
          try clear c7
          try clear c8
          try clear c18
          try clear c18b0
          try clear c18b1
          try clear c19
          try clear c19b0
          try clear c19b1
          try clear c20
          try clear c20b0
          try clear c20b1
          obtain ⟨kq, x52_9, rfl, HA, HJ9, HO_9, HB⟩ := hcut
          cases kq with
          | zero => exact absurd HA.out (by simp [thermographlaw03_BitsOne.j0])
          | succ kj9 =>
            have H := HA.out
            clear HA
            simp only [thermographlaw03_BitsOne.j0] at H
            by_cases c21 : x52_9 = true
            · subst c21
              have H1 : (some false) = some r := by rw [if_pos rfl] at H; exact H
              clear H
              have H := H1
              clear H1
              obtain rfl := Option.some.inj H
              go_wp2
              go_ret
              exact ⟨by first | rfl | (simp [errW_none, errW_some] <;> rfl) | (simp [*, errW_none, errW_some] <;> rfl), by repeat (first | (with_reducible first | exact HB.out | apply below_alloc | apply pw_below_drewN | apply below_drew1) | exact HB.out)⟩
            · replace c21 := Bool.eq_false_iff.mpr c21
              subst c21
              have H1 : (if 0 ≤ (wrap64 ((t176.length : Int) - 1)) then (if (wrap64 ((t176.length : Int) - 1)) ≤ (t176.length : Int) then ((bits_ReadUvarint.f kj9 (t176.take ((wrap64 ((t176.length : Int) - 1)) : Int).toNat)).bind fun bt194 => (if (t176.length : Int) = 0 then (none) else (if 0 ≤ (Int.tmod (wrap64 ((Int.tmod a2 (t176.length : Int)) + (t176.length : Int))) (t176.length : Int)) then (if (Int.tmod (wrap64 ((Int.tmod a2 (t176.length : Int)) + (t176.length : Int))) (t176.length : Int)) < (t176.length : Int) then ((bits_ReadUvarint.f kj9 (t176.set ((Int.tmod (wrap64 ((Int.tmod a2 (t176.length : Int)) + (t176.length : Int))) (t176.length : Int)) : Int).toNat (((rd t176 (Int.tmod (wrap64 ((Int.tmod a2 (t176.length : Int)) + (t176.length : Int))) (t176.length : Int))) + a3) % 256))).bind fun bt198 => (if bt194.2 = 0 then (if a3 = 0 then (some true) else (if bt198.1 = a0 then (some (bt198.2 != (t176.length : Int))) else (some true))) else (some false))) else (none)) else (none)))) else (none)) else (none)) = some r := by rw [if_neg (show ¬ (false = true) by decide)] at H; exact H
              clear H
              have H := H1
              clear H1
              obtain ⟨ji22, hji22⟩ : ∃ j_ : Int, (wrap64 ((t176.length : Int) - 1)) = j_ := ⟨_, rfl⟩
              replace H : (if 0 ≤ (ji22) then (if (ji22) ≤ (t176.length : Int) then ((bits_ReadUvarint.f kj9 (t176.take ((ji22) : Int).toNat)).bind fun bt194 => (if (t176.length : Int) = 0 then (none) else (if 0 ≤ (Int.tmod (wrap64 ((Int.tmod a2 (t176.length : Int)) + (t176.length : Int))) (t176.length : Int)) then (if (Int.tmod (wrap64 ((Int.tmod a2 (t176.length : Int)) + (t176.length : Int))) (t176.length : Int)) < (t176.length : Int) then ((bits_ReadUvarint.f kj9 (t176.set ((Int.tmod (wrap64 ((Int.tmod a2 (t176.length : Int)) + (t176.length : Int))) (t176.length : Int)) : Int).toNat (((rd t176 (Int.tmod (wrap64 ((Int.tmod a2 (t176.length : Int)) + (t176.length : Int))) (t176.length : Int))) + a3) % 256))).bind fun bt198 => (if bt194.2 = 0 then (if a3 = 0 then (some true) else (if bt198.1 = a0 then (some (bt198.2 != (t176.length : Int))) else (some true))) else (some false))) else (none)) else (none)))) else (none)) else (none)) = some r := by first | (rw [hji22] at H; exact H) | (simp only [hji22] at H ⊢; exact H)
              have hji22w : (IntKind.i64.wrap ((t176.length : Int) - 1)) = ji22 := (i64_w _).trans hji22
              by_cases c23 : 0 ≤ (ji22)
              · rw [if_pos c23] at H
                have c23b0 := eq_true c23
                have c23b1 : decide (0 ≤ (ji22)) = true := decide_eq_true c23
                clear c23
                by_cases c24 : (ji22) ≤ (t176.length : Int)
                · rw [if_pos c24] at H
                  have c24b0 := eq_true c24
                  have c24b1 : decide ((ji22) ≤ (t176.length : Int)) = true := decide_eq_true c24
                  clear c24
                  obtain ⟨y190, hy190⟩ : ∃ y_ : List Int, y_ = (t176.take ((ji22) : Int).toNat) := ⟨_, rfl⟩
                  replace H : ((bits_ReadUvarint.f kj9 y190).bind fun bt194 => (if (t176.length : Int) = 0 then (none) else (if 0 ≤ (Int.tmod (wrap64 ((Int.tmod a2 (t176.length : Int)) + (t176.length : Int))) (t176.length : Int)) then (if (Int.tmod (wrap64 ((Int.tmod a2 (t176.length : Int)) + (t176.length : Int))) (t176.length : Int)) < (t176.length : Int) then ((bits_ReadUvarint.f kj9 (t176.set ((Int.tmod (wrap64 ((Int.tmod a2 (t176.length : Int)) + (t176.length : Int))) (t176.length : Int)) : Int).toNat (((rd t176 (Int.tmod (wrap64 ((Int.tmod a2 (t176.length : Int)) + (t176.length : Int))) (t176.length : Int))) + a3) % 256))).bind fun bt198 => (if bt194.2 = 0 then (if a3 = 0 then (some true) else (if bt198.1 = a0 then (some (bt198.2 != (t176.length : Int))) else (some true))) else (some false))) else (none)) else (none)))) = some r := by first | (rw [hy190]; with_reducible exact H) | (have H2_ := (Option.bind_some _ _).symm.trans H; rw [hy190]; with_reducible exact H2_) | (have H2_ := (Option.bind_some _ _).symm.trans H; with_reducible exact H2_) | with_reducible exact H | (rw [hy190]; exact H) | exact H
                  have Ny190 := Aside0.mk hy190
                  clear hy190
                  replace H := Option.bind_eq_some_iff.mp H
                  obtain ⟨⟨t194, t195⟩, A250, H⟩ := H
                  replace H : (if (t176.length : Int) = 0 then (none) else (if 0 ≤ (Int.tmod (wrap64 ((Int.tmod a2 (t176.length : Int)) + (t176.length : Int))) (t176.length : Int)) then (if (Int.tmod (wrap64 ((Int.tmod a2 (t176.length : Int)) + (t176.length : Int))) (t176.length : Int)) < (t176.length : Int) then ((bits_ReadUvarint.f kj9 (t176.set ((Int.tmod (wrap64 ((Int.tmod a2 (t176.length : Int)) + (t176.length : Int))) (t176.length : Int)) : Int).toNat (((rd t176 (Int.tmod (wrap64 ((Int.tmod a2 (t176.length : Int)) + (t176.length : Int))) (t176.length : Int))) + a3) % 256))).bind fun bt198 => (if t195 = 0 then (if a3 = 0 then (some true) else (if bt198.1 = a0 then (some (bt198.2 != (t176.length : Int))) else (some true))) else (some false))) else (none)) else (none))) = some r := H
                  have A25 := Aside0.mk A250
                  clear A250
                  by_cases c26 : (t176.length : Int) = 0
                  · rw [if_pos c26] at H
                    exact absurd H (by simp)
                  · rw [if_neg c26] at H
                    have c26b0 : ((t176.length : Int) == 0) = false := beq_eq_false_iff_ne.mpr c26
                    have c26b1 : ((t176.length : Int) != 0) = true := bne_iff_ne.mpr c26
                    have c26b2 : ¬ (t176 = []) := fun h_ => c26 (by rw [h_]; rfl)
                    obtain ⟨ji27, hji27⟩ : ∃ j_ : Int, (Int.tmod (wrap64 ((Int.tmod a2 (t176.length : Int)) + (t176.length : Int))) (t176.length : Int)) = j_ := ⟨_, rfl⟩
                    replace H : (if 0 ≤ (ji27) then (if (ji27) < (t176.length : Int) then ((bits_ReadUvarint.f kj9 (t176.set ((ji27) : Int).toNat (((rd t176 (ji27)) + a3) % 256))).bind fun bt198 => (if t195 = 0 then (if a3 = 0 then (some true) else (if bt198.1 = a0 then (some (bt198.2 != (t176.length : Int))) else (some true))) else (some false))) else (none)) else (none)) = some r := by first | (rw [hji27] at H; exact H) | (simp only [hji27] at H ⊢; exact H)
                    (try rw [hji27] at A25)
                    by_cases c28 : 0 ≤ (ji27)
                    · rw [if_pos c28] at H
                      have c28b0 : decide (0 ≤ (ji27)) = true := decide_eq_true c28
                      clear c28
                      by_cases c29 : (ji27) < (t176.length : Int)
                      · rw [if_pos c29] at H
                        have c29b0 : decide ((ji27) < (t176.length : Int)) = true := decide_eq_true c29
                        clear c29
                        obtain ⟨y197, hy197⟩ : ∃ y_ : List Int, y_ = (t176.set ((ji27) : Int).toNat (((rd t176 (ji27)) + a3) % 256)) := ⟨_, rfl⟩
                        replace H : ((bits_ReadUvarint.f kj9 y197).bind fun bt198 => (if t195 = 0 then (if a3 = 0 then (some true) else (if bt198.1 = a0 then (some (bt198.2 != (t176.length : Int))) else (some true))) else (some false))) = some r := by first | (rw [hy197]; with_reducible exact H) | (have H2_ := (Option.bind_some _ _).symm.trans H; rw [hy197]; with_reducible exact H2_) | (have H2_ := (Option.bind_some _ _).symm.trans H; with_reducible exact H2_) | with_reducible exact H | (rw [hy197]; exact H) | exact H
                        have Ny197 := Aside0.mk hy197
                        clear hy197
                        replace H := Option.bind_eq_some_iff.mp H
                        obtain ⟨⟨t198, t199⟩, A310, H⟩ := H
                        replace H : (if t195 = 0 then (if a3 = 0 then (some true) else (if t198 = a0 then (some (t199 != (t176.length : Int))) else (some true))) else (some false)) = some r := H
                        have A31 := Aside0.mk A310
                        clear A310
                        by_cases c32 : t195 = 0
                        · rw [if_pos c32] at H
                          have c32b0 : (t195 == 0) = true := beq_iff_eq.mpr c32
                          have c32b1 : (t195 != 0) = false := bne_eq_false_iff_eq.mpr c32
                          clear c32
                          by_cases c33 : a3 = 0
                          · rw [if_pos c33] at H
                            have c33b0 : (a3 == 0) = true := beq_iff_eq.mpr c33
                            have c33b1 : (a3 != 0) = false := bne_eq_false_iff_eq.mpr c33
                            clear c33
                            obtain rfl := Option.some.inj H
                            have q34 : ((ji22) : Int) ≤ ((t176.length : Int) : Int) := of_decide_eq_true (by first | (with_reducible assumption) | assumption)
                            obtain ⟨i034, hi034, _, hsz34, _⟩ := info_parts info5
                            have hroom34 : t176.length ≤ co15 := (Kd.R_reads' HO_9.out).2.1
                            have hC34 : Kd.C (Kd.int .u8) _ Ao15 t176.length t176 := (Kd.R_reads' HO_9.out).2.2
                            have hcut34 := cut_to (P := Try.prog) 26 5 .i64 Try.underlying26 hi034 Ao15 t176.length co15 (ji22) (of_decide_eq_true (by first | (with_reducible assumption) | assumption)) q34 hroom34
                            have hr34 := Kd.C_take (m := ((ji22) : Int).toNat) hC34 (by omega)
                            have hy34 : y190.length = ((ji22) : Int).toNat := (by rw [Ny190.out, List.length_take]; omega)
                            rw [← Ny190.out] at hr34
                            rw [← hy34] at hcut34
                            have HR193 := Aside0.mk hr34
                            have HC193 := Aside0.mk (show y190.length ≤ co15 from by omega)
                            clear hr34 hC34 hroom34 hi034 hsz34
                            have KY34 := Aside0.mk hy34
                            clear hy34
                            have KL34 := Aside0.mk (show ((ji22) : Int).toNat ≤ t176.length from by omega)
                            replace q34 := eq_true q34
                            go_wp2_with (first | ((with_reducible refine gate_callee (f := 26) rfl ?_); refine goesL_ (some 59) rfl rfl Try.func26 (by kernel_rfl) rfl #[.slice Ao15 y190.length co15] rfl (by (try simp only [List.map_toArray, List.map_cons, List.map_nil]); first | done | rfl | (simp only [List.length_drop, List.length_take]; rfl)) ?_; (with_reducible refine (bits_ReadUvarint.calls kj9 _ _ y190 t194 t195 _ ?side1 ?side2 A25.out).mono ?_); (case side1 => repeat (first | exact (by repeat (first | (with_reducible exact HR193.out) | (with_reducible refine Kd.C_alloc ?_ _) | (with_reducible refine Kd.C_drewN ?_ _) | (with_reducible refine Kd.C_drew ?_) | exact HR193.out)) | (with_reducible refine Kd.C_alloc ?_ _) | (with_reducible refine Kd.C_drewN ?_ _) | (with_reducible refine Kd.C_drew ?_))); (case side2 => exact HC193.out); rintro e w' ⟨rfl, ⟨nd, rfl⟩⟩; refine ⟨_, rfl, ?_⟩; (try (rw [drewN_self wc]; generalize hq_ : World.drewN wc _ = wc; have n0_ : Aside0 (Kd.R (Kd.int .u8) 5 wc w.heap.size (fun _ => True) (.slice Ao15 t176.length co15) t176) := ⟨by rw [← hq_]; exact (by (with_reducible repeat (first | apply Kd.R_alloc | apply Kd.R_drewN | apply Kd.R_drew)); exact HO_9.out)⟩; have n1_ : Aside0 (Below w.heap.size w wc) := ⟨by rw [← hq_]; exact (by repeat (first | (with_reducible first | exact HB.out | apply below_alloc | apply pw_below_drewN | apply below_drew1) | exact HB.out))⟩; have n2_ : Aside0 (Kd.C (Kd.int .u8) wc Ao15 y190.length y190) := ⟨by rw [← hq_]; exact (by repeat (first | (with_reducible exact HR193.out) | (with_reducible refine Kd.C_alloc ?_ _) | (with_reducible refine Kd.C_drewN ?_ _) | (with_reducible refine Kd.C_drew ?_) | exact HR193.out))⟩; clear HO_9 HB HR193 hq_; have HO_9 := n0_; have HB := n1_; have HR193 := n2_; clear n0_ n1_ n2_)); have p196 : 0 ≤ ((ji27) : Int) := of_decide_eq_true (by first | (with_reducible assumption) | assumption); have q196 : (ji27) < (t176.length : Int) := of_decide_eq_true (by first | (with_reducible assumption) | assumption); obtain ⟨ad196, e196, hx196_0⟩ := Kd.at_int (Kd.R_reads' HO_9.out).2.2 (ji27) p196 q196; cases e196; replace p196 := eq_true p196; replace q196 := eq_true q196; have p30 : 0 ≤ ((ji27) : Int) := of_decide_eq_true (by first | (with_reducible assumption) | assumption); have q30 : ((ji27) : Int) < ((t176.length : Int) : Int) := of_decide_eq_true (by first | (with_reducible assumption) | assumption); obtain ⟨go30, co30, eo30, gb30, gl30, cl30, HG30⟩ := Kd.R_form HO_9.out (by omega); (first | cases eo30 | (injection eo30 with ea_ en_ ec_; (first | subst ea_ | (injection ea_ with ea_; subst ea_)); subst ec_; clear en_)); have GB30 := Aside0.mk gb30; have GG30 := Aside0.mk HG30; clear gb30 gl30 HG30; (first | simp only [add_plain] at hx196_0 | skip); obtain ⟨hx30_0, hf30_0⟩ := Kd.R_celln 0 HO_9.out ((ji27) : Int) p30 q30; replace p30 := eq_true p30; replace q30 := eq_true q30; obtain ⟨hy35_, hz35_⟩ := Kd.R_celln 0 HO_9.out ((ji27) : Int) (of_decide_eq_true (by first | (with_reducible assumption) | assumption)) (of_decide_eq_true (by first | (with_reducible assumption) | assumption)); have HP35 := Kd.R_putg HO_9.out ((ji27) : Int) (((rd t176 (ji27)) + a3) % 256)) | ((with_reducible refine gate_store (t := 5) (p := 80) rfl ?_); refine store_event (t := 5) (p := 80) (v := ?vo_w36) (w1 := (wc.setCell ⟨go30, ((ji27) : Int).toNat, none⟩ (.int .u8 (((rd t176 (ji27)) + a3) % 256)))) ?hg ?ho ?hn ?hr ?_; (case ho => rfl); (case hg => rfl); (case hn => rfl); (case hr => first | (go_simp; done) | (go_simp; rfl)); intro w36 hw; have hg : wc.grownBy w36 (some go30) := (by rw [hw]; exact HP35.2); have hp_ : Kd.R (Kd.int .u8) 5 w36 w.heap.size (fun _ => True) (.slice (some ⟨go30, 0, none⟩) t176.length co15) y197 := (by rw [hw, Ny197.out]; exact HP35.1); clear HP35; have n0_ := Aside0.mk (hp_); have n1_ := Aside0.mk ((by rw [hw]; exact below_set (HB.out) GB30.out : Below w.heap.size w w36)); clear HO_9; clear HB; have HO_9 := n0_; have HB := n1_; clear n0_ n1_; clear hg hw hp_) | ((with_reducible refine gate_callee (f := 26) rfl ?_); refine goesL_ (some 83) rfl rfl Try.func26 (by kernel_rfl) rfl #[.slice (some ⟨go30, 0, none⟩) y197.length co15] rfl (by (try simp only [List.map_toArray, List.map_cons, List.map_nil]); first | done | (rw [show y197.length = t176.length from (Kd.R_reads' HO_9.out).1.symm] <;> rfl) | rfl | (simp only [List.length_drop, List.length_take]; rfl)) ?_; (with_reducible refine (bits_ReadUvarint.calls kj9 _ _ y197 t198 t199 _ ?side1 ?side2 A31.out).mono ?_); (case side1 => repeat (first | exact (Kd.R_reads' HO_9.out).2.2 | (with_reducible refine Kd.C_alloc ?_ _) | (with_reducible refine Kd.C_drewN ?_ _) | (with_reducible refine Kd.C_drew ?_))); (case side2 => rw [show y197.length = t176.length from (Kd.R_reads' HO_9.out).1.symm]; exact (Kd.R_reads' HO_9.out).2.1); rintro e w' ⟨rfl, ⟨nd, rfl⟩⟩; refine ⟨_, rfl, ?_⟩))
                            go_ret
                            exact ⟨by first | rfl | (simp [errW_none, errW_some] <;> rfl) | (simp only [← hji22, ← hji27]; first | rfl | (simp [errW_none, errW_some] <;> rfl)) | (simp [*, errW_none, errW_some] <;> rfl), by repeat (first | (with_reducible first | exact HB.out | apply below_alloc | apply pw_below_drewN | apply below_drew1) | exact HB.out)⟩
                          · rw [if_neg c33] at H
                            have c33b0 : (a3 == 0) = false := beq_eq_false_iff_ne.mpr c33
                            have c33b1 : (a3 != 0) = true := bne_iff_ne.mpr c33
                            by_cases c37 : t198 = a0
                            · rw [if_pos c37] at H
                              have c37b0 : (t198 == a0) = true := beq_iff_eq.mpr c37
                              have c37b1 : (t198 != a0) = false := bne_eq_false_iff_eq.mpr c37
                              clear c37
                              obtain rfl := Option.some.inj H
                              have q38 : ((ji22) : Int) ≤ ((t176.length : Int) : Int) := of_decide_eq_true (by first | (with_reducible assumption) | assumption)
                              obtain ⟨i038, hi038, _, hsz38, _⟩ := info_parts info5
                              have hroom38 : t176.length ≤ co15 := (Kd.R_reads' HO_9.out).2.1
                              have hC38 : Kd.C (Kd.int .u8) _ Ao15 t176.length t176 := (Kd.R_reads' HO_9.out).2.2
                              have hcut38 := cut_to (P := Try.prog) 26 5 .i64 Try.underlying26 hi038 Ao15 t176.length co15 (ji22) (of_decide_eq_true (by first | (with_reducible assumption) | assumption)) q38 hroom38
                              have hr38 := Kd.C_take (m := ((ji22) : Int).toNat) hC38 (by omega)
                              have hy38 : y190.length = ((ji22) : Int).toNat := (by rw [Ny190.out, List.length_take]; omega)
                              rw [← Ny190.out] at hr38
                              rw [← hy38] at hcut38
                              have HR193 := Aside0.mk hr38
                              have HC193 := Aside0.mk (show y190.length ≤ co15 from by omega)
                              clear hr38 hC38 hroom38 hi038 hsz38
                              have KY38 := Aside0.mk hy38
                              clear hy38
                              have KL38 := Aside0.mk (show ((ji22) : Int).toNat ≤ t176.length from by omega)
                              replace q38 := eq_true q38
                              go_wp2_with (first | ((with_reducible refine gate_callee (f := 26) rfl ?_); refine goesL_ (some 59) rfl rfl Try.func26 (by kernel_rfl) rfl #[.slice Ao15 y190.length co15] rfl (by (try simp only [List.map_toArray, List.map_cons, List.map_nil]); first | done | rfl | (simp only [List.length_drop, List.length_take]; rfl)) ?_; (with_reducible refine (bits_ReadUvarint.calls kj9 _ _ y190 t194 t195 _ ?side1 ?side2 A25.out).mono ?_); (case side1 => repeat (first | exact (by repeat (first | (with_reducible exact HR193.out) | (with_reducible refine Kd.C_alloc ?_ _) | (with_reducible refine Kd.C_drewN ?_ _) | (with_reducible refine Kd.C_drew ?_) | exact HR193.out)) | (with_reducible refine Kd.C_alloc ?_ _) | (with_reducible refine Kd.C_drewN ?_ _) | (with_reducible refine Kd.C_drew ?_))); (case side2 => exact HC193.out); rintro e w' ⟨rfl, ⟨nd, rfl⟩⟩; refine ⟨_, rfl, ?_⟩; (try (rw [drewN_self wc]; generalize hq_ : World.drewN wc _ = wc; have n0_ : Aside0 (Kd.R (Kd.int .u8) 5 wc w.heap.size (fun _ => True) (.slice Ao15 t176.length co15) t176) := ⟨by rw [← hq_]; exact (by (with_reducible repeat (first | apply Kd.R_alloc | apply Kd.R_drewN | apply Kd.R_drew)); exact HO_9.out)⟩; have n1_ : Aside0 (Below w.heap.size w wc) := ⟨by rw [← hq_]; exact (by repeat (first | (with_reducible first | exact HB.out | apply below_alloc | apply pw_below_drewN | apply below_drew1) | exact HB.out))⟩; have n2_ : Aside0 (Kd.C (Kd.int .u8) wc Ao15 y190.length y190) := ⟨by rw [← hq_]; exact (by repeat (first | (with_reducible exact HR193.out) | (with_reducible refine Kd.C_alloc ?_ _) | (with_reducible refine Kd.C_drewN ?_ _) | (with_reducible refine Kd.C_drew ?_) | exact HR193.out))⟩; clear HO_9 HB HR193 hq_; have HO_9 := n0_; have HB := n1_; have HR193 := n2_; clear n0_ n1_ n2_)); have p196 : 0 ≤ ((ji27) : Int) := of_decide_eq_true (by first | (with_reducible assumption) | assumption); have q196 : (ji27) < (t176.length : Int) := of_decide_eq_true (by first | (with_reducible assumption) | assumption); obtain ⟨ad196, e196, hx196_0⟩ := Kd.at_int (Kd.R_reads' HO_9.out).2.2 (ji27) p196 q196; cases e196; replace p196 := eq_true p196; replace q196 := eq_true q196; have p30 : 0 ≤ ((ji27) : Int) := of_decide_eq_true (by first | (with_reducible assumption) | assumption); have q30 : ((ji27) : Int) < ((t176.length : Int) : Int) := of_decide_eq_true (by first | (with_reducible assumption) | assumption); obtain ⟨go30, co30, eo30, gb30, gl30, cl30, HG30⟩ := Kd.R_form HO_9.out (by omega); (first | cases eo30 | (injection eo30 with ea_ en_ ec_; (first | subst ea_ | (injection ea_ with ea_; subst ea_)); subst ec_; clear en_)); have GB30 := Aside0.mk gb30; have GG30 := Aside0.mk HG30; clear gb30 gl30 HG30; (first | simp only [add_plain] at hx196_0 | skip); obtain ⟨hx30_0, hf30_0⟩ := Kd.R_celln 0 HO_9.out ((ji27) : Int) p30 q30; replace p30 := eq_true p30; replace q30 := eq_true q30; obtain ⟨hy39_, hz39_⟩ := Kd.R_celln 0 HO_9.out ((ji27) : Int) (of_decide_eq_true (by first | (with_reducible assumption) | assumption)) (of_decide_eq_true (by first | (with_reducible assumption) | assumption)); have HP39 := Kd.R_putg HO_9.out ((ji27) : Int) (((rd t176 (ji27)) + a3) % 256)) | ((with_reducible refine gate_store (t := 5) (p := 80) rfl ?_); refine store_event (t := 5) (p := 80) (v := ?vo_w40) (w1 := (wc.setCell ⟨go30, ((ji27) : Int).toNat, none⟩ (.int .u8 (((rd t176 (ji27)) + a3) % 256)))) ?hg ?ho ?hn ?hr ?_; (case ho => rfl); (case hg => rfl); (case hn => rfl); (case hr => first | (go_simp; done) | (go_simp; rfl)); intro w40 hw; have hg : wc.grownBy w40 (some go30) := (by rw [hw]; exact HP39.2); have hp_ : Kd.R (Kd.int .u8) 5 w40 w.heap.size (fun _ => True) (.slice (some ⟨go30, 0, none⟩) t176.length co15) y197 := (by rw [hw, Ny197.out]; exact HP39.1); clear HP39; have n0_ := Aside0.mk (hp_); have n1_ := Aside0.mk ((by rw [hw]; exact below_set (HB.out) GB30.out : Below w.heap.size w w40)); clear HO_9; clear HB; have HO_9 := n0_; have HB := n1_; clear n0_ n1_; clear hg hw hp_) | ((with_reducible refine gate_callee (f := 26) rfl ?_); refine goesL_ (some 83) rfl rfl Try.func26 (by kernel_rfl) rfl #[.slice (some ⟨go30, 0, none⟩) y197.length co15] rfl (by (try simp only [List.map_toArray, List.map_cons, List.map_nil]); first | done | (rw [show y197.length = t176.length from (Kd.R_reads' HO_9.out).1.symm] <;> rfl) | rfl | (simp only [List.length_drop, List.length_take]; rfl)) ?_; (with_reducible refine (bits_ReadUvarint.calls kj9 _ _ y197 t198 t199 _ ?side1 ?side2 A31.out).mono ?_); (case side1 => repeat (first | exact (Kd.R_reads' HO_9.out).2.2 | (with_reducible refine Kd.C_alloc ?_ _) | (with_reducible refine Kd.C_drewN ?_ _) | (with_reducible refine Kd.C_drew ?_))); (case side2 => rw [show y197.length = t176.length from (Kd.R_reads' HO_9.out).1.symm]; exact (Kd.R_reads' HO_9.out).2.1); rintro e w' ⟨rfl, ⟨nd, rfl⟩⟩; refine ⟨_, rfl, ?_⟩))
                              go_ret
                              exact ⟨by first | rfl | (simp [errW_none, errW_some] <;> rfl) | (simp only [← hji22, ← hji27]; first | rfl | (simp [errW_none, errW_some] <;> rfl)) | (simp [*, errW_none, errW_some] <;> rfl), by repeat (first | (with_reducible first | exact HB.out | apply below_alloc | apply pw_below_drewN | apply below_drew1) | exact HB.out)⟩
                            · rw [if_neg c37] at H
                              have c37b0 : (t198 == a0) = false := beq_eq_false_iff_ne.mpr c37
                              have c37b1 : (t198 != a0) = true := bne_iff_ne.mpr c37
                              obtain rfl := Option.some.inj H
                              have q41 : ((ji22) : Int) ≤ ((t176.length : Int) : Int) := of_decide_eq_true (by first | (with_reducible assumption) | assumption)
                              obtain ⟨i041, hi041, _, hsz41, _⟩ := info_parts info5
                              have hroom41 : t176.length ≤ co15 := (Kd.R_reads' HO_9.out).2.1
                              have hC41 : Kd.C (Kd.int .u8) _ Ao15 t176.length t176 := (Kd.R_reads' HO_9.out).2.2
                              have hcut41 := cut_to (P := Try.prog) 26 5 .i64 Try.underlying26 hi041 Ao15 t176.length co15 (ji22) (of_decide_eq_true (by first | (with_reducible assumption) | assumption)) q41 hroom41
                              have hr41 := Kd.C_take (m := ((ji22) : Int).toNat) hC41 (by omega)
                              have hy41 : y190.length = ((ji22) : Int).toNat := (by rw [Ny190.out, List.length_take]; omega)
                              rw [← Ny190.out] at hr41
                              rw [← hy41] at hcut41
                              have HR193 := Aside0.mk hr41
                              have HC193 := Aside0.mk (show y190.length ≤ co15 from by omega)
                              clear hr41 hC41 hroom41 hi041 hsz41
                              have KY41 := Aside0.mk hy41
                              clear hy41
                              have KL41 := Aside0.mk (show ((ji22) : Int).toNat ≤ t176.length from by omega)
                              replace q41 := eq_true q41
                              go_wp2_with (first | ((with_reducible refine gate_callee (f := 26) rfl ?_); refine goesL_ (some 59) rfl rfl Try.func26 (by kernel_rfl) rfl #[.slice Ao15 y190.length co15] rfl (by (try simp only [List.map_toArray, List.map_cons, List.map_nil]); first | done | rfl | (simp only [List.length_drop, List.length_take]; rfl)) ?_; (with_reducible refine (bits_ReadUvarint.calls kj9 _ _ y190 t194 t195 _ ?side1 ?side2 A25.out).mono ?_); (case side1 => repeat (first | exact (by repeat (first | (with_reducible exact HR193.out) | (with_reducible refine Kd.C_alloc ?_ _) | (with_reducible refine Kd.C_drewN ?_ _) | (with_reducible refine Kd.C_drew ?_) | exact HR193.out)) | (with_reducible refine Kd.C_alloc ?_ _) | (with_reducible refine Kd.C_drewN ?_ _) | (with_reducible refine Kd.C_drew ?_))); (case side2 => exact HC193.out); rintro e w' ⟨rfl, ⟨nd, rfl⟩⟩; refine ⟨_, rfl, ?_⟩; (try (rw [drewN_self wc]; generalize hq_ : World.drewN wc _ = wc; have n0_ : Aside0 (Kd.R (Kd.int .u8) 5 wc w.heap.size (fun _ => True) (.slice Ao15 t176.length co15) t176) := ⟨by rw [← hq_]; exact (by (with_reducible repeat (first | apply Kd.R_alloc | apply Kd.R_drewN | apply Kd.R_drew)); exact HO_9.out)⟩; have n1_ : Aside0 (Below w.heap.size w wc) := ⟨by rw [← hq_]; exact (by repeat (first | (with_reducible first | exact HB.out | apply below_alloc | apply pw_below_drewN | apply below_drew1) | exact HB.out))⟩; have n2_ : Aside0 (Kd.C (Kd.int .u8) wc Ao15 y190.length y190) := ⟨by rw [← hq_]; exact (by repeat (first | (with_reducible exact HR193.out) | (with_reducible refine Kd.C_alloc ?_ _) | (with_reducible refine Kd.C_drewN ?_ _) | (with_reducible refine Kd.C_drew ?_) | exact HR193.out))⟩; clear HO_9 HB HR193 hq_; have HO_9 := n0_; have HB := n1_; have HR193 := n2_; clear n0_ n1_ n2_)); have p196 : 0 ≤ ((ji27) : Int) := of_decide_eq_true (by first | (with_reducible assumption) | assumption); have q196 : (ji27) < (t176.length : Int) := of_decide_eq_true (by first | (with_reducible assumption) | assumption); obtain ⟨ad196, e196, hx196_0⟩ := Kd.at_int (Kd.R_reads' HO_9.out).2.2 (ji27) p196 q196; cases e196; replace p196 := eq_true p196; replace q196 := eq_true q196; have p30 : 0 ≤ ((ji27) : Int) := of_decide_eq_true (by first | (with_reducible assumption) | assumption); have q30 : ((ji27) : Int) < ((t176.length : Int) : Int) := of_decide_eq_true (by first | (with_reducible assumption) | assumption); obtain ⟨go30, co30, eo30, gb30, gl30, cl30, HG30⟩ := Kd.R_form HO_9.out (by omega); (first | cases eo30 | (injection eo30 with ea_ en_ ec_; (first | subst ea_ | (injection ea_ with ea_; subst ea_)); subst ec_; clear en_)); have GB30 := Aside0.mk gb30; have GG30 := Aside0.mk HG30; clear gb30 gl30 HG30; (first | simp only [add_plain] at hx196_0 | skip); obtain ⟨hx30_0, hf30_0⟩ := Kd.R_celln 0 HO_9.out ((ji27) : Int) p30 q30; replace p30 := eq_true p30; replace q30 := eq_true q30; obtain ⟨hy42_, hz42_⟩ := Kd.R_celln 0 HO_9.out ((ji27) : Int) (of_decide_eq_true (by first | (with_reducible assumption) | assumption)) (of_decide_eq_true (by first | (with_reducible assumption) | assumption)); have HP42 := Kd.R_putg HO_9.out ((ji27) : Int) (((rd t176 (ji27)) + a3) % 256)) | ((with_reducible refine gate_store (t := 5) (p := 80) rfl ?_); refine store_event (t := 5) (p := 80) (v := ?vo_w43) (w1 := (wc.setCell ⟨go30, ((ji27) : Int).toNat, none⟩ (.int .u8 (((rd t176 (ji27)) + a3) % 256)))) ?hg ?ho ?hn ?hr ?_; (case ho => rfl); (case hg => rfl); (case hn => rfl); (case hr => first | (go_simp; done) | (go_simp; rfl)); intro w43 hw; have hg : wc.grownBy w43 (some go30) := (by rw [hw]; exact HP42.2); have hp_ : Kd.R (Kd.int .u8) 5 w43 w.heap.size (fun _ => True) (.slice (some ⟨go30, 0, none⟩) t176.length co15) y197 := (by rw [hw, Ny197.out]; exact HP42.1); clear HP42; have n0_ := Aside0.mk (hp_); have n1_ := Aside0.mk ((by rw [hw]; exact below_set (HB.out) GB30.out : Below w.heap.size w w43)); clear HO_9; clear HB; have HO_9 := n0_; have HB := n1_; clear n0_ n1_; clear hg hw hp_) | ((with_reducible refine gate_callee (f := 26) rfl ?_); refine goesL_ (some 83) rfl rfl Try.func26 (by kernel_rfl) rfl #[.slice (some ⟨go30, 0, none⟩) y197.length co15] rfl (by (try simp only [List.map_toArray, List.map_cons, List.map_nil]); first | done | (rw [show y197.length = t176.length from (Kd.R_reads' HO_9.out).1.symm] <;> rfl) | rfl | (simp only [List.length_drop, List.length_take]; rfl)) ?_; (with_reducible refine (bits_ReadUvarint.calls kj9 _ _ y197 t198 t199 _ ?side1 ?side2 A31.out).mono ?_); (case side1 => repeat (first | exact (Kd.R_reads' HO_9.out).2.2 | (with_reducible refine Kd.C_alloc ?_ _) | (with_reducible refine Kd.C_drewN ?_ _) | (with_reducible refine Kd.C_drew ?_))); (case side2 => rw [show y197.length = t176.length from (Kd.R_reads' HO_9.out).1.symm]; exact (Kd.R_reads' HO_9.out).2.1); rintro e w' ⟨rfl, ⟨nd, rfl⟩⟩; refine ⟨_, rfl, ?_⟩))
                              go_ret
                              exact ⟨by first | rfl | (simp [errW_none, errW_some] <;> rfl) | (simp only [← hji22, ← hji27]; first | rfl | (simp [errW_none, errW_some] <;> rfl)) | (simp [*, errW_none, errW_some] <;> rfl), by repeat (first | (with_reducible first | exact HB.out | apply below_alloc | apply pw_below_drewN | apply below_drew1) | exact HB.out)⟩
                        · rw [if_neg c32] at H
                          have c32b0 : (t195 == 0) = false := beq_eq_false_iff_ne.mpr c32
                          have c32b1 : (t195 != 0) = true := bne_iff_ne.mpr c32
                          obtain rfl := Option.some.inj H
                          have q44 : ((ji22) : Int) ≤ ((t176.length : Int) : Int) := of_decide_eq_true (by first | (with_reducible assumption) | assumption)
                          obtain ⟨i044, hi044, _, hsz44, _⟩ := info_parts info5
                          have hroom44 : t176.length ≤ co15 := (Kd.R_reads' HO_9.out).2.1
                          have hC44 : Kd.C (Kd.int .u8) _ Ao15 t176.length t176 := (Kd.R_reads' HO_9.out).2.2
                          have hcut44 := cut_to (P := Try.prog) 26 5 .i64 Try.underlying26 hi044 Ao15 t176.length co15 (ji22) (of_decide_eq_true (by first | (with_reducible assumption) | assumption)) q44 hroom44
                          have hr44 := Kd.C_take (m := ((ji22) : Int).toNat) hC44 (by omega)
                          have hy44 : y190.length = ((ji22) : Int).toNat := (by rw [Ny190.out, List.length_take]; omega)
                          rw [← Ny190.out] at hr44
                          rw [← hy44] at hcut44
                          have HR193 := Aside0.mk hr44
                          have HC193 := Aside0.mk (show y190.length ≤ co15 from by omega)
                          clear hr44 hC44 hroom44 hi044 hsz44
                          have KY44 := Aside0.mk hy44
                          clear hy44
                          have KL44 := Aside0.mk (show ((ji22) : Int).toNat ≤ t176.length from by omega)
                          replace q44 := eq_true q44
                          go_wp2_with (first | ((with_reducible refine gate_callee (f := 26) rfl ?_); refine goesL_ (some 59) rfl rfl Try.func26 (by kernel_rfl) rfl #[.slice Ao15 y190.length co15] rfl (by (try simp only [List.map_toArray, List.map_cons, List.map_nil]); first | done | rfl | (simp only [List.length_drop, List.length_take]; rfl)) ?_; (with_reducible refine (bits_ReadUvarint.calls kj9 _ _ y190 t194 t195 _ ?side1 ?side2 A25.out).mono ?_); (case side1 => repeat (first | exact (by repeat (first | (with_reducible exact HR193.out) | (with_reducible refine Kd.C_alloc ?_ _) | (with_reducible refine Kd.C_drewN ?_ _) | (with_reducible refine Kd.C_drew ?_) | exact HR193.out)) | (with_reducible refine Kd.C_alloc ?_ _) | (with_reducible refine Kd.C_drewN ?_ _) | (with_reducible refine Kd.C_drew ?_))); (case side2 => exact HC193.out); rintro e w' ⟨rfl, ⟨nd, rfl⟩⟩; refine ⟨_, rfl, ?_⟩; (try (rw [drewN_self wc]; generalize hq_ : World.drewN wc _ = wc; have n0_ : Aside0 (Kd.R (Kd.int .u8) 5 wc w.heap.size (fun _ => True) (.slice Ao15 t176.length co15) t176) := ⟨by rw [← hq_]; exact (by (with_reducible repeat (first | apply Kd.R_alloc | apply Kd.R_drewN | apply Kd.R_drew)); exact HO_9.out)⟩; have n1_ : Aside0 (Below w.heap.size w wc) := ⟨by rw [← hq_]; exact (by repeat (first | (with_reducible first | exact HB.out | apply below_alloc | apply pw_below_drewN | apply below_drew1) | exact HB.out))⟩; have n2_ : Aside0 (Kd.C (Kd.int .u8) wc Ao15 y190.length y190) := ⟨by rw [← hq_]; exact (by repeat (first | (with_reducible exact HR193.out) | (with_reducible refine Kd.C_alloc ?_ _) | (with_reducible refine Kd.C_drewN ?_ _) | (with_reducible refine Kd.C_drew ?_) | exact HR193.out))⟩; clear HO_9 HB HR193 hq_; have HO_9 := n0_; have HB := n1_; have HR193 := n2_; clear n0_ n1_ n2_)); have p196 : 0 ≤ ((ji27) : Int) := of_decide_eq_true (by first | (with_reducible assumption) | assumption); have q196 : (ji27) < (t176.length : Int) := of_decide_eq_true (by first | (with_reducible assumption) | assumption); obtain ⟨ad196, e196, hx196_0⟩ := Kd.at_int (Kd.R_reads' HO_9.out).2.2 (ji27) p196 q196; cases e196; replace p196 := eq_true p196; replace q196 := eq_true q196; have p30 : 0 ≤ ((ji27) : Int) := of_decide_eq_true (by first | (with_reducible assumption) | assumption); have q30 : ((ji27) : Int) < ((t176.length : Int) : Int) := of_decide_eq_true (by first | (with_reducible assumption) | assumption); obtain ⟨go30, co30, eo30, gb30, gl30, cl30, HG30⟩ := Kd.R_form HO_9.out (by omega); (first | cases eo30 | (injection eo30 with ea_ en_ ec_; (first | subst ea_ | (injection ea_ with ea_; subst ea_)); subst ec_; clear en_)); have GB30 := Aside0.mk gb30; have GG30 := Aside0.mk HG30; clear gb30 gl30 HG30; (first | simp only [add_plain] at hx196_0 | skip); obtain ⟨hx30_0, hf30_0⟩ := Kd.R_celln 0 HO_9.out ((ji27) : Int) p30 q30; replace p30 := eq_true p30; replace q30 := eq_true q30; obtain ⟨hy45_, hz45_⟩ := Kd.R_celln 0 HO_9.out ((ji27) : Int) (of_decide_eq_true (by first | (with_reducible assumption) | assumption)) (of_decide_eq_true (by first | (with_reducible assumption) | assumption)); have HP45 := Kd.R_putg HO_9.out ((ji27) : Int) (((rd t176 (ji27)) + a3) % 256)) | ((with_reducible refine gate_store (t := 5) (p := 80) rfl ?_); refine store_event (t := 5) (p := 80) (v := ?vo_w46) (w1 := (wc.setCell ⟨go30, ((ji27) : Int).toNat, none⟩ (.int .u8 (((rd t176 (ji27)) + a3) % 256)))) ?hg ?ho ?hn ?hr ?_; (case ho => rfl); (case hg => rfl); (case hn => rfl); (case hr => first | (go_simp; done) | (go_simp; rfl)); intro w46 hw; have hg : wc.grownBy w46 (some go30) := (by rw [hw]; exact HP45.2); have hp_ : Kd.R (Kd.int .u8) 5 w46 w.heap.size (fun _ => True) (.slice (some ⟨go30, 0, none⟩) t176.length co15) y197 := (by rw [hw, Ny197.out]; exact HP45.1); clear HP45; have n0_ := Aside0.mk (hp_); have n1_ := Aside0.mk ((by rw [hw]; exact below_set (HB.out) GB30.out : Below w.heap.size w w46)); clear HO_9; clear HB; have HO_9 := n0_; have HB := n1_; clear n0_ n1_; clear hg hw hp_) | ((with_reducible refine gate_callee (f := 26) rfl ?_); refine goesL_ (some 83) rfl rfl Try.func26 (by kernel_rfl) rfl #[.slice (some ⟨go30, 0, none⟩) y197.length co15] rfl (by (try simp only [List.map_toArray, List.map_cons, List.map_nil]); first | done | (rw [show y197.length = t176.length from (Kd.R_reads' HO_9.out).1.symm] <;> rfl) | rfl | (simp only [List.length_drop, List.length_take]; rfl)) ?_; (with_reducible refine (bits_ReadUvarint.calls kj9 _ _ y197 t198 t199 _ ?side1 ?side2 A31.out).mono ?_); (case side1 => repeat (first | exact (Kd.R_reads' HO_9.out).2.2 | (with_reducible refine Kd.C_alloc ?_ _) | (with_reducible refine Kd.C_drewN ?_ _) | (with_reducible refine Kd.C_drew ?_))); (case side2 => rw [show y197.length = t176.length from (Kd.R_reads' HO_9.out).1.symm]; exact (Kd.R_reads' HO_9.out).2.1); rintro e w' ⟨rfl, ⟨nd, rfl⟩⟩; refine ⟨_, rfl, ?_⟩))
                          go_ret
                          exact ⟨by first | rfl | (simp [errW_none, errW_some] <;> rfl) | (simp only [← hji22, ← hji27]; first | rfl | (simp [errW_none, errW_some] <;> rfl)) | (simp [*, errW_none, errW_some] <;> rfl), by repeat (first | (with_reducible first | exact HB.out | apply below_alloc | apply pw_below_drewN | apply below_drew1) | exact HB.out)⟩
                      · rw [if_neg c29] at H
                        exact absurd H (by simp)
                    · rw [if_neg c28] at H
                      exact absurd H (by simp)
                · rw [if_neg c24] at H
                  exact absurd H (by simp)
              · rw [if_neg c23] at H
                exact absurd H (by simp)
      · rw [if_neg c8] at H
        exact absurd H (by simp)
    · rw [if_neg c7] at H
      exact absurd H (by simp)

/-- THE ONE PURE STATEMENT of thermographlaw03_BitsOne: yours. -/
def thermographlaw03_BitsOne.Pure : Prop := ∀ (a0 : Int) (l1 : List Int) (a2 : Int) (a3 : Int), (Lit.int .u64 a0).wf = true → l1.length ≤ maxLen → l1.length * 1 ≤ 140737488351232 → (∀ x ∈ l1, (Lit.int .u8 x).wf = true) → (Lit.int .i64 a2).wf = true → (Lit.int .u8 a3).wf = true → ∃ k, thermographlaw03_BitsOne.f k a0 l1 a2 a3 = some true
theorem thermographlaw03_BitsOne.walk (P : thermographlaw03_BitsOne.Pure) (a0 : Int) (a1 : Option Addr) (len1 cap1 : Nat) (z1 : List Int) (a2 : Int) (a3 : Int) (w : World) (w0 : (Lit.int .u64 a0).wf = true) (w1 : (a1 = none ∧ len1 = 0 ∧ cap1 = 0 ∧ z1 = []) ∨ ∃ x, a1 = some x ∧ len1 ≤ cap1 ∧ cap1 ≤ maxLen ∧ z1.length = cap1 ∧ (∀ i, i < z1.length → w.cell? (x.add i) = some (.int .u8 (z1.getD i 0))) ∧ ∀ n ∈ z1, (Lit.int .u8 n).wf = true) (y1 : len1 * 1 ≤ 140737488351232) (w2 : (Lit.int .i64 a2).wf = true) (w3 : (Lit.int .u8 a3).wf = true) :
    Calls Try.prog 7 #[.int .u64 a0, .slice a1 len1 cap1, .int .i64 a2, .int .u8 a3] w fun e w' => e = .returned (.bool true) ∧ Below w.heap.size w w' := by
  obtain ⟨l1, rfl, hr1, hm1, hw1, hc1⟩ := ReadsInt.ofRowC w1
  obtain ⟨k, h⟩ := P a0 l1 a2 a3 w0 hm1 y1 hw1 w2 w3
  refine (thermographlaw03_BitsOne.calls k a0 _ _ l1 a2 a3 true w (Kd.C_of_reads (d := (0 : Int)) (h1 := fun _ => rfl) hr1) hc1 h).mono ?_
  rintro e w' ⟨rfl, hd⟩
  exact ⟨rfl, hd⟩

end Go.Proofs.Ytnhfkiiknmnjgaa.QB
