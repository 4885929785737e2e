/- What functions of the translation come to, each as a Lean function, and a proof that the call comes to just that; or a law's row, out of its plain law. Written by mp.py, a program of this session, which runs the printer of the kit with stand-in bodies for some library functions.
   Plain lemmas: the document's encoding of points is the program's. The laws TszEncodes, TszSums, TszEven. -/
import Derived.Test.YtmnlbedgkjnodaaDoorZTszOne0
import Derived.Test.YtmnlbedgkjnodaaDoorZTszOne3
import Derived.Test.YtmnlbedgkjnodaaDoorZTszOne14
import Derived.Test.YtmnlbedgkjnodaaDoorZTszOne9
import Derived.Test.YtmnlbedgkjnodaaDoorZTszOne4
import Derived.Test.YtmnlbedgkjnodaaDoorZTszOne10
import Derived.Test.YtmnlbedgkjnodaaDoorZTszOne13
set_option linter.unusedSimpArgs false
set_option linter.unusedVariables false
namespace Go.Proofs.YtmnlbedgkjnodaaDoor.QB
open Go.RowKit Go.Proofs.YtmnlbedgkjnodaaDoorW.PrintWords Go.Proofs.YtmnlbedgkjnodaaDoorW.PrintLast Go.Proofs.YtmnlbedgkjnodaaDoorW.PrintMore
attribute [local go_sem] max2_int min2_int max_two min_two max_three min_three max_four min_four   -- for this text's walks alone
def thermographref05_value.j0 : Nat → List Int → Int → Int → Int → Bool → Bool → Int → Int → Option (List Int × Bool × Int × Int)
  | 0, _, _, _, _, _, _, _, _ => none
  | k + 1, x0, x2, x8, x9, x32, x210000, x210001, x210002 => if x32 = true then ((thermographref03_Put.f k x0 2 2).bind fun t216 => (if 0 ≤ x210002 then ((thermographref03_Put.f k t216 (shr .u64 x2 x210002) (wrap64 ((wrap64 (64 - x210001)) - x210002))).bind fun t219 => (some (t219, x210000, x210001, x210002))) else (none))) else ((thermographref03_Put.f k x0 3 2).bind fun t222 => ((thermographref03_Put.f k t222 (IntKind.u64.wrap (x8)) 5).bind fun t225 => ((thermographref03_Put.f k t225 (IntKind.u64.wrap (wrap64 ((wrap64 (63 - x8)) - x9))) 6).bind fun t228 => (if 0 ≤ x9 then ((thermographref03_Put.f k t228 (shr .u64 x2 x9) (wrap64 ((wrap64 (64 - x8)) - x9))).bind fun t231 => (some (t231, true, x8, x9))) else (none)))))
def thermographref05_value.f (k : Nat) (l0 : List Int) (a1_0 : Bool) (a1_1 : Int) (a1_2 : Int) (a2 : Int) : Option (List Int × Bool × Int × Int) := if a2 = 0 then ((thermographref03_Put.f k l0 0 1).bind fun t211 => (some (t211, a1_0, a1_1, a1_2))) else ((thermographref05_leads.f k a2).bind fun t214 => ((thermographref05_trails.f k a2).bind fun t215 => (if a1_0 = true then (if t214 ≥ a1_1 then (thermographref05_value.j0 k l0 a2 t214 t215 (decide (t215 ≥ a1_2)) a1_0 a1_1 a1_2) else (thermographref05_value.j0 k l0 a2 t214 t215 false a1_0 a1_1 a1_2)) else (thermographref05_value.j0 k l0 a2 t214 t215 false a1_0 a1_1 a1_2))))
def thermographref05_value.T7 : Bool × List (List Nat × List Nat) := (true, [([], []), ([], []), ([], []), ([2], [2]), ([1, 3], [1, 3]), ([], []), ([5], [5]), ([6], [6]), ([], []), ([8], [8]), ([7, 9], [7, 9]), ([0, 4, 10], [0, 4, 10]), ([], []), ([11, 11, 0, 1, 2, 3, 4, 5, 6, 7, 8, 9, 10, 11], [11]), ([12, 13, 0, 1, 2, 3, 4, 5, 6, 7, 8, 9, 10, 11, 12, 13], [12])])
def thermographref05_value.B7 : List Nat := [0, 0, 0, 4, 14, 0, 32, 96, 0, 256, 992, 2047, 0, 4095, 16383]
theorem thermographref05_value.tab7 : rtab .any (opsOf Tryd.f30 7) = thermographref05_value.T7 := by kernel_rfl
theorem thermographref05_value.bits7 : waitsOk thermographref05_value.T7.2 thermographref05_value.B7 = true := by kernel_rfl
set_option maxHeartbeats 8000000 in
set_option maxRecDepth 100000 in
theorem thermographref05_value.calls (k : Nat) (P0_ : Nat → Prop) (u9000_ : Value) (l0 : List Int) (a1_0 : Bool) (a1_1 : Int) (a1_2 : Int) (a2 : Int) (r1 : List Int) (r2 : Bool) (r3 : Int) (r4 : Int) (w0 w : World) (hB : Below w0.heap.size w0 w) (ho0 : Kd.R (Kd.int .u8) 5 w w0.heap.size P0_ u9000_ l0) (h : thermographref05_value.f k l0 a1_0 a1_1 a1_2 a2 = some (r1, r2, r3, r4)) :
    Calls Tryd.prog 30 #[u9000_, .agg #[.bool a1_0, .int .i64 a1_1, .int .i64 a1_2], .int .u64 a2] w fun e w' => ∃ v0_ : Value, e = .returned (.tuple #[v0_, .agg #[.bool r2, .int .i64 r3, .int .i64 r4]]) ∧ Kd.R (Kd.int .u8) 5 w' w0.heap.size (fun k_ => (P0_ k_ ∨ w.heap.size ≤ k_)) v0_ r1 ∧ Below w0.heap.size w0 w' ∧ Kept w w' (fun k_ => P0_ k_) := by
  have hu55 := Tryd.underlying55
  have HO0 := Aside0.mk (show Kd.R (Kd.int .u8) 5 w w0.heap.size (fun k_ => (P0_ k_ ∨ w.heap.size ≤ k_)) u9000_ l0 from Kd.R_mono ho0 (fun k_ hk => (.inl hk)))
  have HK := Aside0.mk (Kept.refl w (fun k_ => P0_ k_))
  have HW0 := Aside0.mk hB.size
  have HB := Aside0.mk hB
  clear hB
  have H : (if a2 = 0 then ((thermographref03_Put.f k l0 0 1).bind fun t211 => (some (t211, a1_0, a1_1, a1_2))) else ((thermographref05_leads.f k a2).bind fun t214 => ((thermographref05_trails.f k a2).bind fun t215 => (if a1_0 = true then (if t214 ≥ a1_1 then (thermographref05_value.j0 k l0 a2 t214 t215 (decide (t215 ≥ a1_2)) a1_0 a1_1 a1_2) else (thermographref05_value.j0 k l0 a2 t214 t215 false a1_0 a1_1 a1_2)) else (thermographref05_value.j0 k l0 a2 t214 t215 false a1_0 a1_1 a1_2))))) = some (r1, r2, r3, r4) := h
  clear h
  by_cases c4 : a2 = 0
  · rw [if_pos c4] at H
    have c4b0 : (a2 == 0) = true := beq_iff_eq.mpr c4
    have c4b1 : (a2 != 0) = false := bne_eq_false_iff_eq.mpr c4
    clear c4
    replace H := Option.bind_eq_some_iff.mp H
    obtain ⟨t211, A50, H⟩ := H
    replace H : (some (t211, a1_0, a1_1, a1_2)) = some (r1, r2, r3, r4) := H
    have A5 := Aside0.mk A50
    clear A50
    simp only [Option.some.injEq, Prod.mk.injEq] at H
    obtain ⟨rfl, rfl, rfl, rfl⟩ := H
    go_enter Tryd.func30, Tryd.ntmps30
    try go_wp2_with (first | ((with_reducible refine gate_dst (N := 4) rfl ?_); refine box_event ?hg (N := 4) ?hd (cs := #[.bool a1_0, .int .i64 a1_1, .int .i64 a1_2]) (t := 55) ?hr ?_; (case hd => rfl); (case hg => rfl); (case hr => first | (go_simp; done) | (go_simp; rfl)); intro gb209 hg w6 hbox hb; have n0_ := Aside0.mk (Kd.R_below (by (with_reducible repeat (first | apply Kd.R_alloc | apply Kd.R_drewN | apply Kd.R_drew)); exact HO0.out) hb); have n1_ := Aside0.mk (Kept.below (S := (fun k_ => P0_ k_)) (by repeat (first | (with_reducible first | exact HK.out | apply Kept.alloc | apply Kept.drewN | apply Kept.drew) | exact HK.out)) hb); have n2_ := Aside0.mk (below_step (by repeat (first | (with_reducible first | exact HB.out | apply below_alloc | apply pw_below_drewN | apply below_drew1) | exact HB.out)) hb); have n3_ := Aside0.mk (hbox); have n4_ := Aside0.mk ((by rw [hg]; exact (by first | exact HK.out.1 | exact (show Kept w _ (fun k_ => P0_ k_) from by repeat (first | (with_reducible first | exact HK.out | apply Kept.alloc | apply Kept.drewN | apply Kept.drew) | exact HK.out)).1) : w.heap.size ≤ gb209)); have n5_ := Aside0.mk ((by rw [hg]; exact (below_size (by repeat (first | (with_reducible first | exact HB.out | apply below_alloc | apply pw_below_drewN | apply below_drew1) | exact HB.out))) : w0.heap.size ≤ gb209)); clear HO0; clear HK; clear HB; have HO0 := n0_; have HK := n1_; have HB := n2_; have BK209 := n3_; have GW209 := n4_; have GE209 := n5_; clear n0_ n1_ n2_ n3_ n4_ n5_; clear hb hbox hg) | ((with_reducible refine gate_dst (N := 7) rfl ?_); refine box_event ?hg (N := 7) ?hd (cs := #[.bool false, .int .i64 0, .int .i64 0]) (t := 55) ?hr ?_; (case hd => rfl); (case hg => rfl); (case hr => first | (go_simp; done) | (go_simp; rfl)); intro gb210 hg w7 hbox hb; have n0_ := Aside0.mk (Kd.R_below (by (with_reducible repeat (first | apply Kd.R_alloc | apply Kd.R_drewN | apply Kd.R_drew)); exact HO0.out) hb); have n1_ := Aside0.mk (blk_below (g := gb209) (o := .cells #[.bool a1_0, .int .i64 a1_1, .int .i64 a1_2] 55 (0, 0)) (by (with_reducible repeat (first | refine blk_drewN ?_ _ | refine blk_drew ?_ | refine blk_alloc ?_ _)); exact BK209.out) hb); have n2_ := Aside0.mk (Kept.below (S := (fun k_ => P0_ k_)) (by repeat (first | (with_reducible first | exact HK.out | apply Kept.alloc | apply Kept.drewN | apply Kept.drew | refine Kept.setCell ?_ (.inr GW209.out) _) | exact HK.out)) hb); have n3_ := Aside0.mk (below_step (by repeat (first | (with_reducible first | exact HB.out | apply below_alloc | apply pw_below_drewN | apply below_drew1 | refine below_set ?_ GE209.out) | exact HB.out)) hb); have n4_ := Aside0.mk (hbox); have n5_ := Aside0.mk ((by rw [hg]; exact (by first | exact HK.out.1 | exact (show Kept w _ (fun k_ => P0_ k_) from by repeat (first | (with_reducible first | exact HK.out | apply Kept.alloc | apply Kept.drewN | apply Kept.drew | refine Kept.setCell ?_ (.inr GW209.out) _) | exact HK.out)).1) : w.heap.size ≤ gb210)); have n6_ := Aside0.mk ((by rw [hg]; exact (below_size (by repeat (first | (with_reducible first | exact HB.out | apply below_alloc | apply pw_below_drewN | apply below_drew1 | refine below_set ?_ GE209.out) | exact HB.out))) : w0.heap.size ≤ gb210)); have n7_ := Aside0.mk ((by rw [hg]; exact Nat.ne_of_lt (blk_lt (g := gb209) (o := .cells #[.bool a1_0, .int .i64 a1_1, .int .i64 a1_2] 55 (0, 0)) (by (with_reducible repeat (first | refine blk_drewN ?_ _ | refine blk_drew ?_ | refine blk_alloc ?_ _)); exact BK209.out)) : gb209 ≠ gb210)); have n8_ := Aside0.mk ((by rw [hg]; exact Nat.ne_of_gt (blk_lt (g := gb209) (o := .cells #[.bool a1_0, .int .i64 a1_1, .int .i64 a1_2] 55 (0, 0)) (by (with_reducible repeat (first | refine blk_drewN ?_ _ | refine blk_drew ?_ | refine blk_alloc ?_ _)); exact BK209.out)) : gb210 ≠ gb209)); clear HO0; clear BK209; clear HK; clear HB; have HO0 := n0_; have BK209 := n1_; have HK := n2_; have HB := n3_; have BK210 := n4_; have GW210 := n5_; have GE210 := n6_; have NB209_210 := n7_; have NB210_209 := n8_; clear n0_ n1_ n2_ n3_ n4_ n5_ n6_ n7_ n8_; clear hb hbox hg))
    have n0_ := Aside0.mk (Kd.R_drew HO0.out)
    have n1_ := Aside0.mk (blk_drew BK209.out)
    have n2_ := Aside0.mk (blk_drew BK210.out)
    have n3_ := Aside0.mk (Kept.drew HK.out)
    have n4_ := Aside0.mk (below_drew1 HB.out)
    clear HO0
    clear BK209
    clear BK210
    clear HK
    clear HB
    have HO0 := n0_
    have BK209 := n1_
    have BK210 := n2_
    have HK := n3_
    have HB := n4_
    clear n0_ n1_ n2_ n3_ n4_
    obtain ⟨Ao9, co9, eo9⟩ := Kd.R_slice HO0.out
    (first | subst eo9 | (injection eo9 with f1_ f2_ f3_; have f4_ := f1_.symm; have f5_ := f3_.symm; clear f1_ f2_ f3_; subst f4_; subst f5_))
    refine start_ (n := 5) (S := fun w' => w'.cell? ⟨gb209, 0, none⟩ = some (.bool a1_0) ∧ w'.cell? ⟨gb209, 1, none⟩ = some (.int .i64 a1_1) ∧ w'.cell? ⟨gb209, 2, none⟩ = some (.int .i64 a1_2)) (ds := []) #[false, false, false, false, false] (by kernel_rfl) rfl rfl ⟨(blk_cell BK209.out 0).trans rfl, (blk_cell BK209.out 1).trans rfl, (blk_cell BK209.out 2).trans rfl⟩ (fun hHeld => ?_)
    generalize w7.drew = w8 at HO0 BK209 BK210 HK HB hHeld ⊢
    refine pure_ (i := 0) (N := some 12) (v := ?_) (a' := ?_) #[true, false, false, false, false] rfl rfl (by kernel_rfl) (fun _ _ _ h => h) (Or.inl ⟨by rfl, ?_⟩) ?_ ?_
    rotate_left
    · intro w'
      go_simp
      with_reducible rfl
    rotate_left
    · simp only [Act.put, List.setIfInBounds_toArray, List.set_cons_zero, List.set_cons_succ, i64_w, i32_w]
      rfl
    refine take_ (i := 2) (N := some 14) (v := ?_) (a' := ?_) #[true, false, true, false, false] rfl rfl (by kernel_rfl) (fun _ _ _ h => h) (Or.inl ⟨by rfl, ?_⟩) hHeld ?_ ?_
    rotate_left
    · rintro w' ⟨s0, s1, s2⟩
      go_simp
      with_reducible rfl
    rotate_left
    · simp only [Act.put, List.setIfInBounds_toArray, List.set_cons_zero, List.set_cons_succ, i64_w, i32_w]
      rfl
    refine one_ (i := 1) (N := some 13) #[true, true, true, false, false] rfl rfl (by kernel_rfl) (by decide) (fun K hK => ?_)
    refine goes_ Tryd.func28 (by kernel_rfl) rfl #[.slice Ao9 l0.length co9, .int .u64 0, .int .i64 1] (by rfl) rfl rfl (by (try simp only [List.map_toArray, List.map_cons, List.map_nil]); first | done | rfl | (simp only [List.length_drop, List.length_take]; rfl)) ?_
    with_reducible refine (thermographref03_Put.calls k (fun k_ => some k_ = (.slice Ao9 l0.length co9 : Value).ownBlock) (.slice Ao9 l0.length co9) l0 0 1 t211 w0 _ ?side1 ?side2 A5.out).mono ?_
    (case side1 => repeat (first | (with_reducible first | exact HB.out | apply below_alloc | apply pw_below_drewN | apply below_drew1 | refine below_set ?_ GE209.out | refine below_set ?_ GE210.out) | exact HB.out))
    (case side2 => exact Kd.R_tight rfl HO0.out)
    rintro e w10 ⟨v212, rfl, ho0, hb, hkp⟩
    refine ⟨_, rfl, ?_⟩
    have n0_ := Aside0.mk (blk_kept (by (with_reducible repeat (first | refine blk_drewN ?_ _ | refine blk_drew ?_ | refine blk_alloc ?_ _)); exact BK209.out) hkp (fun hs_ => (fun e_ => (Kd.R_ne HO0.out BK209.out (by decide)) e_) hs_))
    have n1_ := Aside0.mk (blk_kept (by (with_reducible repeat (first | refine blk_drewN ?_ _ | refine blk_drew ?_ | refine blk_alloc ?_ _)); exact BK210.out) hkp (fun hs_ => (fun e_ => (Kd.R_ne HO0.out BK210.out (by decide)) e_) hs_))
    have n2_ := Aside0.mk (Kd.R_mono (ok' := fun k_ => (P0_ k_ ∨ w.heap.size ≤ k_)) ho0 (fun k_ hk_ => Or.elim hk_ (fun hs_ => (HO0.out.1 k_ (hs_).symm)) (fun hn_ => (.inr (Nat.le_trans (by first | exact HK.out.1 | exact (show Kept w _ (fun k_ => P0_ k_) from by repeat (first | (with_reducible first | exact HK.out | apply Kept.alloc | apply Kept.drewN | apply Kept.drew | refine Kept.setCell ?_ (.inr GW209.out) _ | refine Kept.setCell ?_ (.inr GW210.out) _) | exact HK.out)).1) hn_)))))
    have n3_ := Aside0.mk (Kept.then_ (S := (fun k_ => P0_ k_)) (by repeat (first | (with_reducible first | exact HK.out | apply Kept.alloc | apply Kept.drewN | apply Kept.drew | refine Kept.setCell ?_ (.inr GW209.out) _ | refine Kept.setCell ?_ (.inr GW210.out) _) | exact HK.out)) hkp (fun k_ hs_ => (fun e_ => (HO0.out.1 k_ e_.symm)) hs_))
    have n4_ := Aside0.mk (hb)
    clear BK209
    clear BK210
    clear HK
    clear HB
    clear HO0
    have BK209 := n0_
    have BK210 := n1_
    have HO213 := n2_
    have HK := n3_
    have HB := n4_
    clear n0_ n1_ n2_ n3_ n4_
    (try clear hb)
    (try clear hkp)
    (try clear ho0)
    refine hK.out _ _ ⟨(blk_cell BK209.out 0).trans rfl, (blk_cell BK209.out 1).trans rfl, (blk_cell BK209.out 2).trans rfl⟩ (fun hHeld => ?_)
    clear hK K
    refine norm_ (a' := ?_) ?_ ?_
    rotate_left
    · show Act.put _ (some 13) _ = _
      simp only [Act.put, List.setIfInBounds_toArray, List.set_cons_zero, List.set_cons_succ, i64_w, i32_w]
      rfl
    refine pure_ (i := 3) (N := some 6) (v := ?_) (a' := ?_) #[true, true, true, true, false] rfl rfl (by kernel_rfl) (fun _ _ _ h => h) (Or.inl ⟨by rfl, ?_⟩) ?_ ?_
    rotate_left
    · intro w'
      go_simp
      with_reducible rfl
    rotate_left
    · simp only [Act.put, List.setIfInBounds_toArray, List.set_cons_zero, List.set_cons_succ, i64_w, i32_w]
      rfl
    refine one_ (i := 4) (N := none) #[true, true, true, true, true] rfl rfl (by kernel_rfl) (by decide) (fun K hK => ?_)
    have hs11 : w10.cell? ⟨gb210, 0, none⟩ = some (.bool false) := (blk_cell BK210.out 0).trans rfl
    have hfs11 := blk_frozen BK210.out 0
    have hns11_0 := NB209_210.out
    have hms11_0 := NB210_209.out
    have hs12 : w10.cell? ⟨gb210, 1, none⟩ = some (.int .i64 0) := (blk_cell BK210.out 1).trans rfl
    have hfs12 := blk_frozen BK210.out 1
    have hns12_0 := NB209_210.out
    have hms12_0 := NB210_209.out
    have hs13 : w10.cell? ⟨gb210, 2, none⟩ = some (.int .i64 0) := (blk_cell BK210.out 2).trans rfl
    have hfs13 := blk_frozen BK210.out 2
    have hns13_0 := NB209_210.out
    have hms13_0 := NB210_209.out
    refine skip_ (w1 := ?_) (by rfl) rfl ?_ ?_
    rotate_left
    · go_simp
      rfl
    refine hK.out _ _ ⟨((cell_far (p := ⟨gb210, _, none⟩) NB209_210.out _).trans (((cell_far (p := ⟨gb210, _, none⟩) NB209_210.out _).trans (((cell_far (p := ⟨gb210, _, none⟩) NB209_210.out _).trans (hHeld.1)))))), ((cell_far (p := ⟨gb210, _, none⟩) NB209_210.out _).trans (((cell_far (p := ⟨gb210, _, none⟩) NB209_210.out _).trans (((cell_far (p := ⟨gb210, _, none⟩) NB209_210.out _).trans (hHeld.2.1)))))), ((cell_far (p := ⟨gb210, _, none⟩) NB209_210.out _).trans (((cell_far (p := ⟨gb210, _, none⟩) NB209_210.out _).trans (((cell_far (p := ⟨gb210, _, none⟩) NB209_210.out _).trans (hHeld.2.2))))))⟩ (fun hHeld => ?_)
    clear hK K
    refine done_ (by kernel_rfl) ?_
    try go_wp2
    refine bodyPost_ret (results_tc rfl _ _ gb210 55 #[.bool a1_0, .int .i64 a1_1, .int .i64 a1_2] (0, 0) _ rfl (by (with_reducible repeat (first | refine blk_drewN ?_ _ | refine blk_drew ?_ | refine blk_alloc ?_ _)); refine blk_put (cs := #[.bool a1_0, .int .i64 a1_1, .int .i64 0]) ?_ 2 _ rfl; (with_reducible repeat (first | refine blk_drewN ?_ _ | refine blk_drew ?_ | refine blk_alloc ?_ _)); refine blk_put (cs := #[.bool a1_0, .int .i64 0, .int .i64 0]) ?_ 1 _ rfl; (with_reducible repeat (first | refine blk_drewN ?_ _ | refine blk_drew ?_ | refine blk_alloc ?_ _)); refine blk_put (cs := #[.bool false, .int .i64 0, .int .i64 0]) ?_ 0 _ rfl; (with_reducible repeat (first | refine blk_drewN ?_ _ | refine blk_drew ?_ | refine blk_alloc ?_ _)); exact BK210.out) Tryd.underlying55 rfl (by kernel_rfl)) rfl ?_
    exact ⟨_, by first | rfl | (simp [errW_none, errW_some] <;> rfl) | (simp [*, errW_none, errW_some] <;> rfl), by (with_reducible repeat (first | apply Kd.R_alloc | apply Kd.R_drewN | apply Kd.R_drew)); exact Kd.R_mono (Kd.R_far (p := ⟨gb210, 2, none⟩) (Kd.R_far (p := ⟨gb210, 1, none⟩) (Kd.R_far (p := ⟨gb210, 0, none⟩) (Kd.R_types HO213.out BK210.out (by decide)) (fun _ hk => hk.2) (.bool a1_0)) (fun _ hk => hk.2) (.int .i64 a1_1)) (fun _ hk => hk.2) (.int .i64 a1_2)) (fun _ hk => hk.1), by repeat (first | (with_reducible first | exact HB.out | apply below_alloc | apply pw_below_drewN | apply below_drew1 | refine below_set ?_ GE209.out | refine below_set ?_ GE210.out) | exact HB.out), by repeat (first | (with_reducible first | exact HK.out | apply Kept.alloc | apply Kept.drewN | apply Kept.drew | refine Kept.setCell ?_ (.inr GW209.out) _ | refine Kept.setCell ?_ (.inr GW210.out) _) | exact HK.out)⟩
  · rw [if_neg c4] at H
    have c4b0 : (a2 == 0) = false := beq_eq_false_iff_ne.mpr c4
    have c4b1 : (a2 != 0) = true := bne_iff_ne.mpr c4
    replace H := Option.bind_eq_some_iff.mp H
    obtain ⟨t214, A140, H⟩ := H
    replace H : ((thermographref05_trails.f k a2).bind fun t215 => (if a1_0 = true then (if t214 ≥ a1_1 then (thermographref05_value.j0 k l0 a2 t214 t215 (decide (t215 ≥ a1_2)) a1_0 a1_1 a1_2) else (thermographref05_value.j0 k l0 a2 t214 t215 false a1_0 a1_1 a1_2)) else (thermographref05_value.j0 k l0 a2 t214 t215 false a1_0 a1_1 a1_2))) = some (r1, r2, r3, r4) := H
    have A14 := Aside0.mk A140
    clear A140
    replace H := Option.bind_eq_some_iff.mp H
    obtain ⟨t215, A150, H⟩ := H
    replace H : (if a1_0 = true then (if t214 ≥ a1_1 then (thermographref05_value.j0 k l0 a2 t214 t215 (decide (t215 ≥ a1_2)) a1_0 a1_1 a1_2) else (thermographref05_value.j0 k l0 a2 t214 t215 false a1_0 a1_1 a1_2)) else (thermographref05_value.j0 k l0 a2 t214 t215 false a1_0 a1_1 a1_2)) = some (r1, r2, r3, r4) := H
    have A15 := Aside0.mk A150
    clear A150
    have HC16 := Aside0.mk H
    clear H
    go_enter Tryd.func30, Tryd.ntmps30
    go_upto_region 5 with (first | ((with_reducible refine gate_dst (N := 4) rfl ?_); refine box_event ?hg (N := 4) ?hd (cs := #[.bool a1_0, .int .i64 a1_1, .int .i64 a1_2]) (t := 55) ?hr ?_; (case hd => rfl); (case hg => rfl); (case hr => first | (go_simp; done) | (go_simp; rfl)); intro gb209 hg w17 hbox hb; have n0_ := Aside0.mk (Kd.R_below (by (with_reducible repeat (first | apply Kd.R_alloc | apply Kd.R_drewN | apply Kd.R_drew)); exact HO0.out) hb); have n1_ := Aside0.mk (Kept.below (S := (fun k_ => P0_ k_)) (by repeat (first | (with_reducible first | exact HK.out | apply Kept.alloc | apply Kept.drewN | apply Kept.drew) | exact HK.out)) hb); have n2_ := Aside0.mk (below_step (by repeat (first | (with_reducible first | exact HB.out | apply below_alloc | apply pw_below_drewN | apply below_drew1) | exact HB.out)) hb); have n3_ := Aside0.mk (hbox); have n4_ := Aside0.mk ((by rw [hg]; exact (by first | exact HK.out.1 | exact (show Kept w _ (fun k_ => P0_ k_) from by repeat (first | (with_reducible first | exact HK.out | apply Kept.alloc | apply Kept.drewN | apply Kept.drew) | exact HK.out)).1) : w.heap.size ≤ gb209)); have n5_ := Aside0.mk ((by rw [hg]; exact (below_size (by repeat (first | (with_reducible first | exact HB.out | apply below_alloc | apply pw_below_drewN | apply below_drew1) | exact HB.out))) : w0.heap.size ≤ gb209)); clear HO0; clear HK; clear HB; have HO0 := n0_; have HK := n1_; have HB := n2_; have BK209 := n3_; have GW209 := n4_; have GE209 := n5_; clear n0_ n1_ n2_ n3_ n4_ n5_; clear hb hbox hg) | ((with_reducible refine gate_dst (N := 7) rfl ?_); refine box_event ?hg (N := 7) ?hd (cs := #[.bool false, .int .i64 0, .int .i64 0]) (t := 55) ?hr ?_; (case hd => rfl); (case hg => rfl); (case hr => first | (go_simp; done) | (go_simp; rfl)); intro gb210 hg w18 hbox hb; have n0_ := Aside0.mk (Kd.R_below (by (with_reducible repeat (first | apply Kd.R_alloc | apply Kd.R_drewN | apply Kd.R_drew)); exact HO0.out) hb); have n1_ := Aside0.mk (blk_below (g := gb209) (o := .cells #[.bool a1_0, .int .i64 a1_1, .int .i64 a1_2] 55 (0, 0)) (by (with_reducible repeat (first | refine blk_drewN ?_ _ | refine blk_drew ?_ | refine blk_alloc ?_ _)); exact BK209.out) hb); have n2_ := Aside0.mk (Kept.below (S := (fun k_ => P0_ k_)) (by repeat (first | (with_reducible first | exact HK.out | apply Kept.alloc | apply Kept.drewN | apply Kept.drew | refine Kept.setCell ?_ (.inr GW209.out) _) | exact HK.out)) hb); have n3_ := Aside0.mk (below_step (by repeat (first | (with_reducible first | exact HB.out | apply below_alloc | apply pw_below_drewN | apply below_drew1 | refine below_set ?_ GE209.out) | exact HB.out)) hb); have n4_ := Aside0.mk (hbox); have n5_ := Aside0.mk ((by rw [hg]; exact (by first | exact HK.out.1 | exact (show Kept w _ (fun k_ => P0_ k_) from by repeat (first | (with_reducible first | exact HK.out | apply Kept.alloc | apply Kept.drewN | apply Kept.drew | refine Kept.setCell ?_ (.inr GW209.out) _) | exact HK.out)).1) : w.heap.size ≤ gb210)); have n6_ := Aside0.mk ((by rw [hg]; exact (below_size (by repeat (first | (with_reducible first | exact HB.out | apply below_alloc | apply pw_below_drewN | apply below_drew1 | refine below_set ?_ GE209.out) | exact HB.out))) : w0.heap.size ≤ gb210)); have n7_ := Aside0.mk ((by rw [hg]; exact Nat.ne_of_lt (blk_lt (g := gb209) (o := .cells #[.bool a1_0, .int .i64 a1_1, .int .i64 a1_2] 55 (0, 0)) (by (with_reducible repeat (first | refine blk_drewN ?_ _ | refine blk_drew ?_ | refine blk_alloc ?_ _)); exact BK209.out)) : gb209 ≠ gb210)); have n8_ := Aside0.mk ((by rw [hg]; exact Nat.ne_of_gt (blk_lt (g := gb209) (o := .cells #[.bool a1_0, .int .i64 a1_1, .int .i64 a1_2] 55 (0, 0)) (by (with_reducible repeat (first | refine blk_drewN ?_ _ | refine blk_drew ?_ | refine blk_alloc ?_ _)); exact BK209.out)) : gb210 ≠ gb209)); clear HO0; clear BK209; clear HK; clear HB; have HO0 := n0_; have BK209 := n1_; have HK := n2_; have HB := n3_; have BK210 := n4_; have GW210 := n5_; have GE210 := n6_; have NB209_210 := n7_; have NB210_209 := n8_; clear n0_ n1_ n2_ n3_ n4_ n5_ n6_ n7_ n8_; clear hb hbox hg) | ((with_reducible refine gate_callee (f := 51) rfl ?_); refine goesL_ (some 16) rfl rfl Tryd.func51 (by kernel_rfl) rfl #[.int .u64 a2] rfl (by (try simp only [List.map_toArray, List.map_cons, List.map_nil]); first | done | rfl | (simp only [List.length_drop, List.length_take]; rfl)) ?_; (with_reducible refine (thermographref05_leads.calls k a2 t214 _ A14.out).mono ?_); rintro e w' ⟨rfl, ⟨nd, rfl⟩⟩; refine ⟨_, rfl, ?_⟩) | ((with_reducible refine gate_callee (f := 52) rfl ?_); refine goesL_ (some 18) rfl rfl Tryd.func52 (by kernel_rfl) rfl #[.int .u64 a2] rfl (by (try simp only [List.map_toArray, List.map_cons, List.map_nil]); first | done | rfl | (simp only [List.length_drop, List.length_take]; rfl)) ?_; (with_reducible refine (thermographref05_trails.calls k a2 t215 _ A15.out).mono ?_); rintro e w' ⟨rfl, ⟨nd, rfl⟩⟩; refine ⟨_, rfl, ?_⟩))
    (try simp only [Act.put, List.setIfInBounds_toArray, List.set_cons_zero, List.set_cons_succ])
    go_cut [32] (fun v32 wc => ∃ (kq : Nat) (x32_15 : Bool), v32 = .bool x32_15 ∧ Aside0 (thermographref05_value.j0 kq l0 a2 t214 t215 x32_15 a1_0 a1_1 a1_2 = some (r1, r2, r3, r4)) ∧ Aside0 (kq ≤ k) ∧ Aside0 (Kd.R (Kd.int .u8) 5 wc w0.heap.size (fun k_ => (P0_ k_ ∨ w.heap.size ≤ k_)) u9000_ l0) ∧ Aside0 (wc.heap[gb209]? = some (.cells #[.bool a1_0, .int .i64 a1_1, .int .i64 a1_2] 55 (0, 0))) ∧ Aside0 (wc.heap[gb210]? = some (.cells #[.bool false, .int .i64 0, .int .i64 0] 55 (0, 0))) ∧ Aside0 (Kept w wc (fun k_ => P0_ k_)) ∧ Aside0 (Below w0.heap.size w0 wc))
    case first =>
      have H := HC16.out
      clear HC16
      by_cases c19 : a1_0 = true
      · subst c19
        have H1 : (if t214 ≥ a1_1 then (thermographref05_value.j0 k l0 a2 t214 t215 (decide (t215 ≥ a1_2)) true a1_1 a1_2) else (thermographref05_value.j0 k l0 a2 t214 t215 false true a1_1 a1_2)) = some (r1, r2, r3, r4) := by rw [if_pos rfl] at H; exact H
        clear H
        have H := H1
        clear H1
        by_cases c20 : t214 ≥ a1_1
        · rw [if_pos c20] at H
          have c20b0 : decide (a1_1 ≤ t214) = true := decide_eq_true c20
          clear c20
          (first | rw [c20b0] | (simp only [i64_w, i32_w]; rw [c20b0]) | skip)
          have H' := Aside0.mk H
          clear H
          have hnb21 := NB209_210.out
          have hnc21 := NB210_209.out
          have hcz22_0 : w18.cell? ⟨gb209, 0, none⟩ = some (.bool true) := (blk_cell BK209.out 0).trans rfl
          have hcz22_1 : w18.cell? ⟨gb209, 1, none⟩ = some (.int .i64 a1_1) := (blk_cell BK209.out 1).trans rfl
          have hcz22_2 : w18.cell? ⟨gb209, 2, none⟩ = some (.int .i64 a1_2) := (blk_cell BK209.out 2).trans rfl
          have hfz22_0 := blk_frozen BK209.out 0
          have hfz22_1 := blk_frozen BK209.out 1
          have hfz22_2 := blk_frozen BK209.out 2
          go_wp2
          go_meet
          case rel => exact ⟨_, (decide (t215 ≥ a1_2)), (by first | rfl | (simp; done) | (simp [*]; done)), H', ⟨by first | omega | exact Nat.le_refl _⟩, ⟨by (with_reducible repeat (first | apply Kd.R_alloc | apply Kd.R_drewN | apply Kd.R_drew)); exact HO0.out⟩, ⟨by (with_reducible repeat (first | refine blk_drewN ?_ _ | refine blk_drew ?_ | refine blk_alloc ?_ _)); exact BK209.out⟩, ⟨by (with_reducible repeat (first | refine blk_drewN ?_ _ | refine blk_drew ?_ | refine blk_alloc ?_ _)); exact BK210.out⟩, ⟨by repeat (first | (with_reducible first | exact HK.out | apply Kept.alloc | apply Kept.drewN | apply Kept.drew | refine Kept.setCell ?_ (.inr GW209.out) _ | refine Kept.setCell ?_ (.inr GW210.out) _) | exact HK.out)⟩, ⟨by repeat (first | (with_reducible first | exact HB.out | apply below_alloc | apply pw_below_drewN | apply below_drew1 | refine below_set ?_ GE209.out | refine below_set ?_ GE210.out) | exact HB.out)⟩⟩
        · rw [if_neg c20] at H
          have c20b0 : decide (a1_1 ≤ t214) = false := decide_eq_false c20
          clear c20
          (first | rw [c20b0] | (simp only [i64_w, i32_w]; rw [c20b0]) | skip)
          have H' := Aside0.mk H
          clear H
          have hnb23 := NB209_210.out
          have hnc23 := NB210_209.out
          have hcz24_0 : w18.cell? ⟨gb209, 0, none⟩ = some (.bool true) := (blk_cell BK209.out 0).trans rfl
          have hcz24_1 : w18.cell? ⟨gb209, 1, none⟩ = some (.int .i64 a1_1) := (blk_cell BK209.out 1).trans rfl
          have hcz24_2 : w18.cell? ⟨gb209, 2, none⟩ = some (.int .i64 a1_2) := (blk_cell BK209.out 2).trans rfl
          have hfz24_0 := blk_frozen BK209.out 0
          have hfz24_1 := blk_frozen BK209.out 1
          have hfz24_2 := blk_frozen BK209.out 2
          go_wp2
          go_meet
          case rel => exact ⟨_, (false), (by first | rfl | (simp; done) | (simp [*]; done)), H', ⟨by first | omega | exact Nat.le_refl _⟩, ⟨by (with_reducible repeat (first | apply Kd.R_alloc | apply Kd.R_drewN | apply Kd.R_drew)); exact HO0.out⟩, ⟨by (with_reducible repeat (first | refine blk_drewN ?_ _ | refine blk_drew ?_ | refine blk_alloc ?_ _)); exact BK209.out⟩, ⟨by (with_reducible repeat (first | refine blk_drewN ?_ _ | refine blk_drew ?_ | refine blk_alloc ?_ _)); exact BK210.out⟩, ⟨by repeat (first | (with_reducible first | exact HK.out | apply Kept.alloc | apply Kept.drewN | apply Kept.drew | refine Kept.setCell ?_ (.inr GW209.out) _ | refine Kept.setCell ?_ (.inr GW210.out) _) | exact HK.out)⟩, ⟨by repeat (first | (with_reducible first | exact HB.out | apply below_alloc | apply pw_below_drewN | apply below_drew1 | refine below_set ?_ GE209.out | refine below_set ?_ GE210.out) | exact HB.out)⟩⟩
      · replace c19 := Bool.eq_false_iff.mpr c19
        subst c19
        have H1 : (thermographref05_value.j0 k l0 a2 t214 t215 false false a1_1 a1_2) = some (r1, r2, r3, r4) := by rw [if_neg (show ¬ (false = true) by decide)] at H; exact H
        clear H
        have H := H1
        clear H1
        have H' := Aside0.mk H
        clear H
        have hnb25 := NB209_210.out
        have hnc25 := NB210_209.out
        have hcz26_0 : w18.cell? ⟨gb209, 0, none⟩ = some (.bool false) := (blk_cell BK209.out 0).trans rfl
        have hcz26_1 : w18.cell? ⟨gb209, 1, none⟩ = some (.int .i64 a1_1) := (blk_cell BK209.out 1).trans rfl
        have hcz26_2 : w18.cell? ⟨gb209, 2, none⟩ = some (.int .i64 a1_2) := (blk_cell BK209.out 2).trans rfl
        have hfz26_0 := blk_frozen BK209.out 0
        have hfz26_1 := blk_frozen BK209.out 1
        have hfz26_2 := blk_frozen BK209.out 2
        go_wp2
        go_meet
        case rel => exact ⟨_, (false), (by first | rfl | (simp; done) | (simp [*]; done)), H', ⟨by first | omega | exact Nat.le_refl _⟩, ⟨by (with_reducible repeat (first | apply Kd.R_alloc | apply Kd.R_drewN | apply Kd.R_drew)); exact HO0.out⟩, ⟨by (with_reducible repeat (first | refine blk_drewN ?_ _ | refine blk_drew ?_ | refine blk_alloc ?_ _)); exact BK209.out⟩, ⟨by (with_reducible repeat (first | refine blk_drewN ?_ _ | refine blk_drew ?_ | refine blk_alloc ?_ _)); exact BK210.out⟩, ⟨by repeat (first | (with_reducible first | exact HK.out | apply Kept.alloc | apply Kept.drewN | apply Kept.drew | refine Kept.setCell ?_ (.inr GW209.out) _ | refine Kept.setCell ?_ (.inr GW210.out) _) | exact HK.out)⟩, ⟨by repeat (first | (with_reducible first | exact HB.out | apply below_alloc | apply pw_below_drewN | apply below_drew1 | refine below_set ?_ GE209.out | refine below_set ?_ GE210.out) | exact HB.out)⟩⟩
    case rest =>
      clear HC16
      try clear c1
      try clear c2
      try clear p2
      try clear c3
      try clear c4
      try clear c4b0
      try clear c4b1
      try clear c5
      try clear c19
      try clear c20
      try clear c20b0
      try clear c21
      try clear c23
      try clear c25
      try clear hcz22_0
      try clear hcz22_1
      try clear hcz22_2
      try clear hcz24_0
      try clear hcz24_1
      try clear hcz24_2
      try clear hcz26_0
      try clear hcz26_1
      try clear hcz26_2
      try clear hfz22_0
      try clear hfz22_1
      try clear hfz22_2
      try clear hfz24_0
      try clear hfz24_1
      try clear hfz24_2
      try clear hfz26_0
      try clear hfz26_1
      try clear hfz26_2
      obtain ⟨kq, x32_15, rfl, HA, HJ15, HO_0, BK209, BK210, HK, HB⟩ := hcut
      cases kq with
      | zero => exact absurd HA.out (by simp [thermographref05_value.j0])
      | succ kj15 =>
        have H := HA.out
        clear HA
        simp only [thermographref05_value.j0] at H
        by_cases c27 : x32_15 = true
        · subst c27
          have H1 : ((thermographref03_Put.f kj15 l0 2 2).bind fun t216 => (if 0 ≤ a1_2 then ((thermographref03_Put.f kj15 t216 (shr .u64 a2 a1_2) (wrap64 ((wrap64 (64 - a1_1)) - a1_2))).bind fun t219 => (some (t219, a1_0, a1_1, a1_2))) else (none))) = some (r1, r2, r3, r4) := by rw [if_pos rfl] at H; exact H
          clear H
          have H := H1
          clear H1
          replace H := Option.bind_eq_some_iff.mp H
          obtain ⟨t216, A280, H⟩ := H
          replace H : (if 0 ≤ a1_2 then ((thermographref03_Put.f kj15 t216 (shr .u64 a2 a1_2) (wrap64 ((wrap64 (64 - a1_1)) - a1_2))).bind fun t219 => (some (t219, a1_0, a1_1, a1_2))) else (none)) = some (r1, r2, r3, r4) := H
          have A28 := Aside0.mk A280
          clear A280
          by_cases c29 : 0 ≤ a1_2
          · rw [if_pos c29] at H
            have c29b0 := eq_true c29
            have c29b1 : decide (0 ≤ a1_2) = true := decide_eq_true c29
            clear c29
            obtain ⟨ji30, hji30⟩ : ∃ j_ : Int, (shr .u64 a2 a1_2) = j_ := ⟨_, rfl⟩
            replace H : ((thermographref03_Put.f kj15 t216 (ji30) (wrap64 ((wrap64 (64 - a1_1)) - a1_2))).bind fun t219 => (some (t219, a1_0, a1_1, a1_2))) = some (r1, r2, r3, r4) := by first | (rw [hji30] at H; exact H) | (simp only [hji30] at H ⊢; exact H)
            (try rw [hji30] at A28)
            have hji30_ : (a2 / 2 ^ min a1_2.toNat 64) = ji30 := hji30
            have hji30z : a1_2 ≤ 64 → (a2 / 2 ^ a1_2.toNat) = ji30 := shr_small hji30
            replace H := Option.bind_eq_some_iff.mp H
            obtain ⟨t219, A310, H⟩ := H
            replace H : (some (t219, a1_0, a1_1, a1_2)) = some (r1, r2, r3, r4) := H
            have A31 := Aside0.mk A310
            clear A310
            simp only [Option.some.injEq, Prod.mk.injEq] at H
            obtain ⟨rfl, rfl, rfl, rfl⟩ := H
            obtain ⟨Ao32, co32, eo32⟩ := Kd.R_slice HO_0.out
            subst eo32
            try go_wp2_with (first | ((with_reducible refine gate_callee (f := 28) rfl ?_); refine goesL_ (some 34) rfl rfl Tryd.func28 (by kernel_rfl) rfl #[.slice Ao32 l0.length co32, .int .u64 2, .int .i64 2] rfl (by (try simp only [List.map_toArray, List.map_cons, List.map_nil]); first | done | rfl | (simp only [List.length_drop, List.length_take]; rfl)) ?_; (with_reducible refine (thermographref03_Put.calls kj15 (fun k_ => some k_ = (.slice Ao32 l0.length co32 : Value).ownBlock) (.slice Ao32 l0.length co32) l0 2 2 t216 w0 _ ?side1 ?side2 A28.out).mono ?_); (case side1 => repeat (first | (with_reducible first | exact HB.out | apply below_alloc | apply pw_below_drewN | apply below_drew1 | refine below_set ?_ GE209.out | refine below_set ?_ GE210.out) | exact HB.out)); (case side2 => exact Kd.R_tight rfl HO_0.out); rintro e w33 ⟨v217, rfl, ho0, hb, hkp⟩; refine ⟨_, rfl, ?_⟩; have n0_ := Aside0.mk (blk_kept (by (with_reducible repeat (first | refine blk_drewN ?_ _ | refine blk_drew ?_ | refine blk_alloc ?_ _)); exact BK209.out) hkp (fun hs_ => (fun e_ => (Kd.R_ne HO_0.out BK209.out (by decide)) e_) hs_)); have n1_ := Aside0.mk (blk_kept (by (with_reducible repeat (first | refine blk_drewN ?_ _ | refine blk_drew ?_ | refine blk_alloc ?_ _)); exact BK210.out) hkp (fun hs_ => (fun e_ => (Kd.R_ne HO_0.out BK210.out (by decide)) e_) hs_)); have n2_ := Aside0.mk (Kd.R_mono (ok' := fun k_ => (P0_ k_ ∨ w.heap.size ≤ k_)) ho0 (fun k_ hk_ => Or.elim hk_ (fun hs_ => (HO_0.out.1 k_ (hs_).symm)) (fun hn_ => (.inr (Nat.le_trans (by first | exact HK.out.1 | exact (show Kept w _ (fun k_ => P0_ k_) from by repeat (first | (with_reducible first | exact HK.out | apply Kept.alloc | apply Kept.drewN | apply Kept.drew | refine Kept.setCell ?_ (.inr GW209.out) _ | refine Kept.setCell ?_ (.inr GW210.out) _) | exact HK.out)).1) hn_))))); have n3_ := Aside0.mk (Kept.then_ (S := (fun k_ => P0_ k_)) (by repeat (first | (with_reducible first | exact HK.out | apply Kept.alloc | apply Kept.drewN | apply Kept.drew | refine Kept.setCell ?_ (.inr GW209.out) _ | refine Kept.setCell ?_ (.inr GW210.out) _) | exact HK.out)) hkp (fun k_ hs_ => (fun e_ => (HO_0.out.1 k_ e_.symm)) hs_)); have n4_ := Aside0.mk (hb); clear BK209; clear BK210; clear HK; clear HB; clear HO_0; have BK209 := n0_; have BK210 := n1_; have HO218 := n2_; have HK := n3_; have HB := n4_; clear n0_ n1_ n2_ n3_ n4_; (try clear hb); (try clear hkp); (try clear ho0)))
            have n0_ := Aside0.mk (Kd.R_drew HO218.out)
            have n1_ := Aside0.mk (blk_drew BK209.out)
            have n2_ := Aside0.mk (blk_drew BK210.out)
            have n3_ := Aside0.mk (Kept.drew HK.out)
            have n4_ := Aside0.mk (below_drew1 HB.out)
            clear HO218
            clear BK209
            clear BK210
            clear HK
            clear HB
            have HO218 := n0_
            have BK209 := n1_
            have BK210 := n2_
            have HK := n3_
            have HB := n4_
            clear n0_ n1_ n2_ n3_ n4_
            obtain ⟨Ao35, co35, eo35⟩ := Kd.R_slice HO218.out
            (first | subst eo35 | (injection eo35 with f1_ f2_ f3_; have f4_ := f1_.symm; have f5_ := f3_.symm; clear f1_ f2_ f3_; subst f4_; subst f5_))
            refine start_ (n := 15) (S := fun w' => w'.cell? ⟨gb209, 0, none⟩ = some (.bool a1_0) ∧ w'.cell? ⟨gb209, 1, none⟩ = some (.int .i64 a1_1) ∧ w'.cell? ⟨gb209, 2, none⟩ = some (.int .i64 a1_2)) (ds := []) #[false, false, false, false, false, false, false, false, false, false, false, false, false, false, false] (by kernel_rfl) rfl rfl ⟨(blk_cell BK209.out 0).trans rfl, (blk_cell BK209.out 1).trans rfl, (blk_cell BK209.out 2).trans rfl⟩ (fun hHeld => ?_); refine with_tabW thermographref05_value.tab7 thermographref05_value.bits7 (fun HT_ HW_ => ?_)
            generalize w33.drew = w34 at HO218 BK209 BK210 HK HB hHeld ⊢
            refine pure_ (i := 0) (N := some 35) (v := ?_) (a' := ?_) #[true, false, false, false, false, false, false, false, false, false, false, false, false, false, false] rfl rfl (any_of HT_.out (by kernel_rfl)) (fun _ _ _ h => h) (Or.inl ⟨by rfl, ?_⟩) ?_ ?_
            rotate_left
            · intro w'
              go_simp
              with_reducible rfl
            rotate_left
            · simp only [Act.put, List.setIfInBounds_toArray, List.set_cons_zero, List.set_cons_succ, i64_w, i32_w]
              rfl
            refine pure_ (i := 1) (N := some 36) (v := ?_) (a' := ?_) #[true, true, false, false, false, false, false, false, false, false, false, false, false, false, false] rfl rfl (any_of HT_.out (by kernel_rfl)) (fun _ _ _ h => h) (Or.inl ⟨by rfl, ?_⟩) ?_ ?_
            rotate_left
            · intro w'
              go_simp
              with_reducible rfl
            rotate_left
            · simp only [Act.put, List.setIfInBounds_toArray, List.set_cons_zero, List.set_cons_succ, i64_w, i32_w]
              rfl
            refine pure_ (i := 2) (N := some 37) (v := ?_) (a' := ?_) #[true, true, true, false, false, false, false, false, false, false, false, false, false, false, false] rfl rfl (any_of HT_.out (by kernel_rfl)) (fun _ _ _ h => h) (Or.inl ⟨by rfl, ?_⟩) ?_ ?_
            rotate_left
            · intro w'
              go_simp
              with_reducible rfl
            rotate_left
            · simp only [Act.put, List.setIfInBounds_toArray, List.set_cons_zero, List.set_cons_succ, i64_w, i32_w]
              rfl
            refine pure_ (i := 5) (N := some 40) (v := ?_) (a' := ?_) #[true, true, true, false, false, true, false, false, false, false, false, false, false, false, false] rfl rfl (any_of HT_.out (by kernel_rfl)) (fun _ _ _ h => h) (Or.inl ⟨by rfl, ?_⟩) ?_ ?_
            rotate_left
            · intro w'
              go_simp
              with_reducible rfl
            rotate_left
            · simp only [Act.put, List.setIfInBounds_toArray, List.set_cons_zero, List.set_cons_succ, i64_w, i32_w]
              rfl
            refine pure_ (i := 8) (N := some 43) (v := ?_) (a' := ?_) #[true, true, true, false, false, true, false, false, true, false, false, false, false, false, false] rfl rfl (any_of HT_.out (by kernel_rfl)) (fun _ _ _ h => h) (Or.inl ⟨by rfl, ?_⟩) ?_ ?_
            rotate_left
            · intro w'
              go_simp
              with_reducible rfl
            rotate_left
            · simp only [Act.put, List.setIfInBounds_toArray, List.set_cons_zero, List.set_cons_succ, i64_w, i32_w]
              rfl
            refine take_ (i := 3) (N := some 38) (v := ?_) (a' := ?_) #[true, true, true, true, false, true, false, false, true, false, false, false, false, false, false] rfl rfl (take_ofW HT_.out HW_.out (by kernel_rfl)) (fun _ _ _ h => h) (Or.inl ⟨by rfl, ?_⟩) hHeld ?_ ?_
            rotate_left
            · rintro w' ⟨s0, s1, s2⟩
              go_simp
              with_reducible rfl
            rotate_left
            · simp only [Act.put, List.setIfInBounds_toArray, List.set_cons_zero, List.set_cons_succ, i64_w, i32_w]
              rfl
            refine pure_ (i := 4) (N := some 39) (v := ?_) (a' := ?_) #[true, true, true, true, true, true, false, false, true, false, false, false, false, false, false] rfl rfl (any_of HT_.out (by kernel_rfl)) (fun _ _ _ h => h) (Or.inl ⟨by rfl, ?_⟩) ?_ ?_
            rotate_left
            · intro w'
              go_simp
              with_reducible rfl
            rotate_left
            · simp only [Act.put, List.setIfInBounds_toArray, List.set_cons_zero, List.set_cons_succ, i64_w, i32_w]
              rfl
            refine take_ (i := 6) (N := some 41) (v := ?_) (a' := ?_) #[true, true, true, true, true, true, true, false, true, false, false, false, false, false, false] rfl rfl (take_ofW HT_.out HW_.out (by kernel_rfl)) (fun _ _ _ h => h) (Or.inl ⟨by rfl, ?_⟩) hHeld ?_ ?_
            rotate_left
            · rintro w' ⟨s0, s1, s2⟩
              go_simp
              with_reducible rfl
            rotate_left
            · simp only [Act.put, List.setIfInBounds_toArray, List.set_cons_zero, List.set_cons_succ, i64_w, i32_w]
              rfl
            refine pure_ (i := 7) (N := some 42) (v := ?_) (a' := ?_) #[true, true, true, true, true, true, true, true, true, false, false, false, false, false, false] rfl rfl (any_of HT_.out (by kernel_rfl)) (fun _ _ _ h => h) (Or.inl ⟨by rfl, ?_⟩) ?_ ?_
            rotate_left
            · intro w'
              go_simp
              with_reducible rfl
            rotate_left
            · simp only [Act.put, List.setIfInBounds_toArray, List.set_cons_zero, List.set_cons_succ, i64_w, i32_w]
              rfl
            refine take_ (i := 9) (N := some 44) (v := ?_) (a' := ?_) #[true, true, true, true, true, true, true, true, true, true, false, false, false, false, false] rfl rfl (take_ofW HT_.out HW_.out (by kernel_rfl)) (fun _ _ _ h => h) (Or.inl ⟨by rfl, ?_⟩) hHeld ?_ ?_
            rotate_left
            · rintro w' ⟨s0, s1, s2⟩
              go_simp
              with_reducible rfl
            rotate_left
            · simp only [Act.put, List.setIfInBounds_toArray, List.set_cons_zero, List.set_cons_succ, i64_w, i32_w]
              rfl
            refine pure_ (i := 10) (N := some 45) (v := ?_) (a' := ?_) #[true, true, true, true, true, true, true, true, true, true, true, false, false, false, false] rfl rfl (any_of HT_.out (by kernel_rfl)) (fun _ _ _ h => h) (Or.inl ⟨by rfl, ?_⟩) ?_ ?_
            rotate_left
            · intro w'
              go_simp
              with_reducible rfl
            rotate_left
            · simp only [Act.put, List.setIfInBounds_toArray, List.set_cons_zero, List.set_cons_succ, i64_w, i32_w]
              rfl
            refine take_ (i := 12) (N := some 47) (v := ?_) (a' := ?_) #[true, true, true, true, true, true, true, true, true, true, true, false, true, false, false] rfl rfl (take_ofW HT_.out HW_.out (by kernel_rfl)) (fun _ _ _ h => h) (Or.inl ⟨by rfl, ?_⟩) hHeld ?_ ?_
            rotate_left
            · rintro w' ⟨s0, s1, s2⟩
              go_simp
              with_reducible rfl
            rotate_left
            · simp only [Act.put, List.setIfInBounds_toArray, List.set_cons_zero, List.set_cons_succ, i64_w, i32_w]
              rfl
            refine one_ (i := 11) (N := some 46) #[true, true, true, true, true, true, true, true, true, true, true, true, true, false, false] rfl rfl (one_of HT_.out (by kernel_rfl)) (by decide) (fun K hK => ?_)
            refine goes_ Tryd.func28 (by kernel_rfl) rfl #[.slice Ao35 t216.length co35, .int .u64 ji30, .int .i64 (wrap64 ((wrap64 (64 - a1_1)) - a1_2))] (by rfl) rfl rfl (by (try simp only [List.map_toArray, List.map_cons, List.map_nil]); first | done | (simp only [hji30]; rfl) | rfl | (simp only [List.length_drop, List.length_take]; rfl)) ?_
            with_reducible refine (thermographref03_Put.calls kj15 (fun k_ => some k_ = (.slice Ao35 t216.length co35 : Value).ownBlock) (.slice Ao35 t216.length co35) t216 ji30 (wrap64 ((wrap64 (64 - a1_1)) - a1_2)) t219 w0 _ ?side1 ?side2 A31.out).mono ?_
            (case side1 => repeat (first | (with_reducible first | exact HB.out | apply below_alloc | apply pw_below_drewN | apply below_drew1 | refine below_set ?_ GE209.out | refine below_set ?_ GE210.out) | exact HB.out))
            (case side2 => exact Kd.R_tight rfl HO218.out)
            rintro e w36 ⟨v220, rfl, ho0, hb, hkp⟩
            refine ⟨_, rfl, ?_⟩
            have n0_ := Aside0.mk (blk_kept (by (with_reducible repeat (first | refine blk_drewN ?_ _ | refine blk_drew ?_ | refine blk_alloc ?_ _)); exact BK209.out) hkp (fun hs_ => (fun e_ => (Kd.R_ne HO218.out BK209.out (by decide)) e_) hs_))
            have n1_ := Aside0.mk (blk_kept (by (with_reducible repeat (first | refine blk_drewN ?_ _ | refine blk_drew ?_ | refine blk_alloc ?_ _)); exact BK210.out) hkp (fun hs_ => (fun e_ => (Kd.R_ne HO218.out BK210.out (by decide)) e_) hs_))
            have n2_ := Aside0.mk (Kd.R_mono (ok' := fun k_ => (P0_ k_ ∨ w.heap.size ≤ k_)) ho0 (fun k_ hk_ => Or.elim hk_ (fun hs_ => (HO218.out.1 k_ (hs_).symm)) (fun hn_ => (.inr (Nat.le_trans (by first | exact HK.out.1 | exact (show Kept w _ (fun k_ => P0_ k_) from by repeat (first | (with_reducible first | exact HK.out | apply Kept.alloc | apply Kept.drewN | apply Kept.drew | refine Kept.setCell ?_ (.inr GW209.out) _ | refine Kept.setCell ?_ (.inr GW210.out) _) | exact HK.out)).1) hn_)))))
            have n3_ := Aside0.mk (Kept.then_ (S := (fun k_ => P0_ k_)) (by repeat (first | (with_reducible first | exact HK.out | apply Kept.alloc | apply Kept.drewN | apply Kept.drew | refine Kept.setCell ?_ (.inr GW209.out) _ | refine Kept.setCell ?_ (.inr GW210.out) _) | exact HK.out)) hkp (fun k_ hs_ => (fun e_ => (HO218.out.1 k_ e_.symm)) hs_))
            have n4_ := Aside0.mk (hb)
            clear BK209
            clear BK210
            clear HK
            clear HB
            clear HO218
            have BK209 := n0_
            have BK210 := n1_
            have HO221 := n2_
            have HK := n3_
            have HB := n4_
            clear n0_ n1_ n2_ n3_ n4_
            (try clear hb)
            (try clear hkp)
            (try clear ho0)
            refine hK.out _ _ ⟨(blk_cell BK209.out 0).trans rfl, (blk_cell BK209.out 1).trans rfl, (blk_cell BK209.out 2).trans rfl⟩ (fun hHeld => ?_)
            clear hK K
            refine norm_ (a' := ?_) ?_ ?_
            rotate_left
            · show Act.put _ (some 46) _ = _
              simp only [Act.put, List.setIfInBounds_toArray, List.set_cons_zero, List.set_cons_succ, i64_w, i32_w]
              rfl
            refine pure_ (i := 13) (N := some 6) (v := ?_) (a' := ?_) #[true, true, true, true, true, true, true, true, true, true, true, true, true, true, false] rfl rfl (any_of HT_.out (by kernel_rfl)) (fun _ _ _ h => h) (Or.inl ⟨by rfl, ?_⟩) ?_ ?_
            rotate_left
            · intro w'
              go_simp
              with_reducible rfl
            rotate_left
            · simp only [Act.put, List.setIfInBounds_toArray, List.set_cons_zero, List.set_cons_succ, i64_w, i32_w]
              rfl
            refine one_ (i := 14) (N := none) #[true, true, true, true, true, true, true, true, true, true, true, true, true, true, true] rfl rfl (one_of HT_.out (by kernel_rfl)) (by decide) (fun K hK => ?_)
            have hs37 : w36.cell? ⟨gb210, 0, none⟩ = some (.bool false) := (blk_cell BK210.out 0).trans rfl
            have hfs37 := blk_frozen BK210.out 0
            have hns37_0 := NB209_210.out
            have hms37_0 := NB210_209.out
            have hs38 : w36.cell? ⟨gb210, 1, none⟩ = some (.int .i64 0) := (blk_cell BK210.out 1).trans rfl
            have hfs38 := blk_frozen BK210.out 1
            have hns38_0 := NB209_210.out
            have hms38_0 := NB210_209.out
            have hs39 : w36.cell? ⟨gb210, 2, none⟩ = some (.int .i64 0) := (blk_cell BK210.out 2).trans rfl
            have hfs39 := blk_frozen BK210.out 2
            have hns39_0 := NB209_210.out
            have hms39_0 := NB210_209.out
            refine skip_ (w1 := ?_) (by rfl) rfl ?_ ?_
            rotate_left
            · go_simp
              rfl
            refine hK.out _ _ ⟨((cell_far (p := ⟨gb210, _, none⟩) NB209_210.out _).trans (((cell_far (p := ⟨gb210, _, none⟩) NB209_210.out _).trans (((cell_far (p := ⟨gb210, _, none⟩) NB209_210.out _).trans (hHeld.1)))))), ((cell_far (p := ⟨gb210, _, none⟩) NB209_210.out _).trans (((cell_far (p := ⟨gb210, _, none⟩) NB209_210.out _).trans (((cell_far (p := ⟨gb210, _, none⟩) NB209_210.out _).trans (hHeld.2.1)))))), ((cell_far (p := ⟨gb210, _, none⟩) NB209_210.out _).trans (((cell_far (p := ⟨gb210, _, none⟩) NB209_210.out _).trans (((cell_far (p := ⟨gb210, _, none⟩) NB209_210.out _).trans (hHeld.2.2))))))⟩ (fun hHeld => ?_)
            clear hK K
            refine done_ (done_of HT_.out (by kernel_rfl)) ?_
            try go_wp2
            refine bodyPost_ret (results_tc rfl _ _ gb210 55 #[.bool a1_0, .int .i64 a1_1, .int .i64 a1_2] (0, 0) _ rfl (by (with_reducible repeat (first | refine blk_drewN ?_ _ | refine blk_drew ?_ | refine blk_alloc ?_ _)); refine blk_put (cs := #[.bool a1_0, .int .i64 a1_1, .int .i64 0]) ?_ 2 _ rfl; (with_reducible repeat (first | refine blk_drewN ?_ _ | refine blk_drew ?_ | refine blk_alloc ?_ _)); refine blk_put (cs := #[.bool a1_0, .int .i64 0, .int .i64 0]) ?_ 1 _ rfl; (with_reducible repeat (first | refine blk_drewN ?_ _ | refine blk_drew ?_ | refine blk_alloc ?_ _)); refine blk_put (cs := #[.bool false, .int .i64 0, .int .i64 0]) ?_ 0 _ rfl; (with_reducible repeat (first | refine blk_drewN ?_ _ | refine blk_drew ?_ | refine blk_alloc ?_ _)); exact BK210.out) Tryd.underlying55 rfl (by kernel_rfl)) rfl ?_
            exact ⟨_, by first | rfl | (simp [errW_none, errW_some] <;> rfl) | (simp only [← hji30]; first | rfl | (simp [errW_none, errW_some] <;> rfl)) | (simp [*, errW_none, errW_some] <;> rfl), by (with_reducible repeat (first | apply Kd.R_alloc | apply Kd.R_drewN | apply Kd.R_drew)); exact Kd.R_mono (Kd.R_far (p := ⟨gb210, 2, none⟩) (Kd.R_far (p := ⟨gb210, 1, none⟩) (Kd.R_far (p := ⟨gb210, 0, none⟩) (Kd.R_types HO221.out BK210.out (by decide)) (fun _ hk => hk.2) (.bool a1_0)) (fun _ hk => hk.2) (.int .i64 a1_1)) (fun _ hk => hk.2) (.int .i64 a1_2)) (fun _ hk => hk.1), by repeat (first | (with_reducible first | exact HB.out | apply below_alloc | apply pw_below_drewN | apply below_drew1 | refine below_set ?_ GE209.out | refine below_set ?_ GE210.out) | exact HB.out), by repeat (first | (with_reducible first | exact HK.out | apply Kept.alloc | apply Kept.drewN | apply Kept.drew | refine Kept.setCell ?_ (.inr GW209.out) _ | refine Kept.setCell ?_ (.inr GW210.out) _) | exact HK.out)⟩
          · rw [if_neg c29] at H
            exact absurd H (by simp)
        · replace c27 := Bool.eq_false_iff.mpr c27
          subst c27
          have H1 : ((thermographref03_Put.f kj15 l0 3 2).bind fun t222 => ((thermographref03_Put.f kj15 t222 (IntKind.u64.wrap (t214)) 5).bind fun t225 => ((thermographref03_Put.f kj15 t225 (IntKind.u64.wrap (wrap64 ((wrap64 (63 - t214)) - t215))) 6).bind fun t228 => (if 0 ≤ t215 then ((thermographref03_Put.f kj15 t228 (shr .u64 a2 t215) (wrap64 ((wrap64 (64 - t214)) - t215))).bind fun t231 => (some (t231, true, t214, t215))) else (none))))) = some (r1, r2, r3, r4) := by rw [if_neg (show ¬ (false = true) by decide)] at H; exact H
          clear H
          have H := H1
          clear H1
          replace H := Option.bind_eq_some_iff.mp H
          obtain ⟨t222, A400, H⟩ := H
          replace H : ((thermographref03_Put.f kj15 t222 (IntKind.u64.wrap (t214)) 5).bind fun t225 => ((thermographref03_Put.f kj15 t225 (IntKind.u64.wrap (wrap64 ((wrap64 (63 - t214)) - t215))) 6).bind fun t228 => (if 0 ≤ t215 then ((thermographref03_Put.f kj15 t228 (shr .u64 a2 t215) (wrap64 ((wrap64 (64 - t214)) - t215))).bind fun t231 => (some (t231, true, t214, t215))) else (none)))) = some (r1, r2, r3, r4) := H
          have A40 := Aside0.mk A400
          clear A400
          replace H := Option.bind_eq_some_iff.mp H
          obtain ⟨t225, A410, H⟩ := H
          replace H : ((thermographref03_Put.f kj15 t225 (IntKind.u64.wrap (wrap64 ((wrap64 (63 - t214)) - t215))) 6).bind fun t228 => (if 0 ≤ t215 then ((thermographref03_Put.f kj15 t228 (shr .u64 a2 t215) (wrap64 ((wrap64 (64 - t214)) - t215))).bind fun t231 => (some (t231, true, t214, t215))) else (none))) = some (r1, r2, r3, r4) := H
          have A41 := Aside0.mk A410
          clear A410
          replace H := Option.bind_eq_some_iff.mp H
          obtain ⟨t228, A420, H⟩ := H
          replace H : (if 0 ≤ t215 then ((thermographref03_Put.f kj15 t228 (shr .u64 a2 t215) (wrap64 ((wrap64 (64 - t214)) - t215))).bind fun t231 => (some (t231, true, t214, t215))) else (none)) = some (r1, r2, r3, r4) := H
          have A42 := Aside0.mk A420
          clear A420
          by_cases c43 : 0 ≤ t215
          · rw [if_pos c43] at H
            have c43b0 := eq_true c43
            have c43b1 : decide (0 ≤ t215) = true := decide_eq_true c43
            clear c43
            obtain ⟨ji44, hji44⟩ : ∃ j_ : Int, (shr .u64 a2 t215) = j_ := ⟨_, rfl⟩
            replace H : ((thermographref03_Put.f kj15 t228 (ji44) (wrap64 ((wrap64 (64 - t214)) - t215))).bind fun t231 => (some (t231, true, t214, t215))) = some (r1, r2, r3, r4) := by first | (rw [hji44] at H; exact H) | (simp only [hji44] at H ⊢; exact H)
            (try rw [hji44] at A40)
            (try rw [hji44] at A41)
            (try rw [hji44] at A42)
            have hji44_ : (a2 / 2 ^ min t215.toNat 64) = ji44 := hji44
            have hji44z : t215 ≤ 64 → (a2 / 2 ^ t215.toNat) = ji44 := shr_small hji44
            replace H := Option.bind_eq_some_iff.mp H
            obtain ⟨t231, A450, H⟩ := H
            replace H : (some (t231, true, t214, t215)) = some (r1, r2, r3, r4) := H
            have A45 := Aside0.mk A450
            clear A450
            simp only [Option.some.injEq, Prod.mk.injEq] at H
            obtain ⟨rfl, rfl, rfl, rfl⟩ := H
            obtain ⟨Ao46, co46, eo46⟩ := Kd.R_slice HO_0.out
            subst eo46
            go_wp2_with (first | ((with_reducible refine gate_callee (f := 28) rfl ?_); refine goesL_ (some 49) rfl rfl Tryd.func28 (by kernel_rfl) rfl #[.slice Ao46 l0.length co46, .int .u64 3, .int .i64 2] rfl (by (try simp only [List.map_toArray, List.map_cons, List.map_nil]); first | done | rfl | (simp only [List.length_drop, List.length_take]; rfl)) ?_; (with_reducible refine (thermographref03_Put.calls kj15 (fun k_ => some k_ = (.slice Ao46 l0.length co46 : Value).ownBlock) (.slice Ao46 l0.length co46) l0 3 2 t222 w0 _ ?side1 ?side2 A40.out).mono ?_); (case side1 => repeat (first | (with_reducible first | exact HB.out | apply below_alloc | apply pw_below_drewN | apply below_drew1 | refine below_set ?_ GE209.out | refine below_set ?_ GE210.out) | exact HB.out)); (case side2 => exact Kd.R_tight rfl HO_0.out); rintro e w47 ⟨v223, rfl, ho0, hb, hkp⟩; refine ⟨_, rfl, ?_⟩; have n0_ := Aside0.mk (blk_kept (by (with_reducible repeat (first | refine blk_drewN ?_ _ | refine blk_drew ?_ | refine blk_alloc ?_ _)); exact BK209.out) hkp (fun hs_ => (fun e_ => (Kd.R_ne HO_0.out BK209.out (by decide)) e_) hs_)); have n1_ := Aside0.mk (blk_kept (by (with_reducible repeat (first | refine blk_drewN ?_ _ | refine blk_drew ?_ | refine blk_alloc ?_ _)); exact BK210.out) hkp (fun hs_ => (fun e_ => (Kd.R_ne HO_0.out BK210.out (by decide)) e_) hs_)); have n2_ := Aside0.mk (Kd.R_mono (ok' := fun k_ => (P0_ k_ ∨ w.heap.size ≤ k_)) ho0 (fun k_ hk_ => Or.elim hk_ (fun hs_ => (HO_0.out.1 k_ (hs_).symm)) (fun hn_ => (.inr (Nat.le_trans (by first | exact HK.out.1 | exact (show Kept w _ (fun k_ => P0_ k_) from by repeat (first | (with_reducible first | exact HK.out | apply Kept.alloc | apply Kept.drewN | apply Kept.drew | refine Kept.setCell ?_ (.inr GW209.out) _ | refine Kept.setCell ?_ (.inr GW210.out) _) | exact HK.out)).1) hn_))))); have n3_ := Aside0.mk (Kept.then_ (S := (fun k_ => P0_ k_)) (by repeat (first | (with_reducible first | exact HK.out | apply Kept.alloc | apply Kept.drewN | apply Kept.drew | refine Kept.setCell ?_ (.inr GW209.out) _ | refine Kept.setCell ?_ (.inr GW210.out) _) | exact HK.out)) hkp (fun k_ hs_ => (fun e_ => (HO_0.out.1 k_ e_.symm)) hs_)); have n4_ := Aside0.mk (hb); clear BK209; clear BK210; clear HK; clear HB; clear HO_0; have BK209 := n0_; have BK210 := n1_; have HO224 := n2_; have HK := n3_; have HB := n4_; clear n0_ n1_ n2_ n3_ n4_; (try clear hb); (try clear hkp); (try clear ho0); obtain ⟨Ao48, co48, eo48⟩ := Kd.R_slice HO224.out; subst eo48) | ((with_reducible refine gate_callee (f := 28) rfl ?_); refine goesL_ (some 53) rfl rfl Tryd.func28 (by kernel_rfl) rfl #[.slice Ao48 t222.length co48, .int .u64 (IntKind.u64.wrap (t214)), .int .i64 5] rfl (by (try simp only [List.map_toArray, List.map_cons, List.map_nil]); first | done | rfl | (simp only [List.length_drop, List.length_take]; rfl)) ?_; (with_reducible refine (thermographref03_Put.calls kj15 (fun k_ => some k_ = (.slice Ao48 t222.length co48 : Value).ownBlock) (.slice Ao48 t222.length co48) t222 (IntKind.u64.wrap (t214)) 5 t225 w0 _ ?side1 ?side2 A41.out).mono ?_); (case side1 => repeat (first | (with_reducible first | exact HB.out | apply below_alloc | apply pw_below_drewN | apply below_drew1 | refine below_set ?_ GE209.out | refine below_set ?_ GE210.out) | exact HB.out)); (case side2 => exact Kd.R_tight rfl HO224.out); rintro e w49 ⟨v226, rfl, ho0, hb, hkp⟩; refine ⟨_, rfl, ?_⟩; have n0_ := Aside0.mk (blk_kept (by (with_reducible repeat (first | refine blk_drewN ?_ _ | refine blk_drew ?_ | refine blk_alloc ?_ _)); exact BK209.out) hkp (fun hs_ => (fun e_ => (Kd.R_ne HO224.out BK209.out (by decide)) e_) hs_)); have n1_ := Aside0.mk (blk_kept (by (with_reducible repeat (first | refine blk_drewN ?_ _ | refine blk_drew ?_ | refine blk_alloc ?_ _)); exact BK210.out) hkp (fun hs_ => (fun e_ => (Kd.R_ne HO224.out BK210.out (by decide)) e_) hs_)); have n2_ := Aside0.mk (Kd.R_mono (ok' := fun k_ => (P0_ k_ ∨ w.heap.size ≤ k_)) ho0 (fun k_ hk_ => Or.elim hk_ (fun hs_ => (HO224.out.1 k_ (hs_).symm)) (fun hn_ => (.inr (Nat.le_trans (by first | exact HK.out.1 | exact (show Kept w _ (fun k_ => P0_ k_) from by repeat (first | (with_reducible first | exact HK.out | apply Kept.alloc | apply Kept.drewN | apply Kept.drew | refine Kept.setCell ?_ (.inr GW209.out) _ | refine Kept.setCell ?_ (.inr GW210.out) _) | exact HK.out)).1) hn_))))); have n3_ := Aside0.mk (Kept.then_ (S := (fun k_ => P0_ k_)) (by repeat (first | (with_reducible first | exact HK.out | apply Kept.alloc | apply Kept.drewN | apply Kept.drew | refine Kept.setCell ?_ (.inr GW209.out) _ | refine Kept.setCell ?_ (.inr GW210.out) _) | exact HK.out)) hkp (fun k_ hs_ => (fun e_ => (HO224.out.1 k_ e_.symm)) hs_)); have n4_ := Aside0.mk (hb); clear BK209; clear BK210; clear HK; clear HB; clear HO224; have BK209 := n0_; have BK210 := n1_; have HO227 := n2_; have HK := n3_; have HB := n4_; clear n0_ n1_ n2_ n3_ n4_; (try clear hb); (try clear hkp); (try clear ho0); obtain ⟨Ao50, co50, eo50⟩ := Kd.R_slice HO227.out; subst eo50) | ((with_reducible refine gate_callee (f := 28) rfl ?_); refine goesL_ (some 60) rfl rfl Tryd.func28 (by kernel_rfl) rfl #[.slice Ao50 t225.length co50, .int .u64 (IntKind.u64.wrap (wrap64 ((wrap64 (63 - t214)) - t215))), .int .i64 6] rfl (by (try simp only [List.map_toArray, List.map_cons, List.map_nil]); first | done | rfl | (simp only [List.length_drop, List.length_take]; rfl)) ?_; (with_reducible refine (thermographref03_Put.calls kj15 (fun k_ => some k_ = (.slice Ao50 t225.length co50 : Value).ownBlock) (.slice Ao50 t225.length co50) t225 (IntKind.u64.wrap (wrap64 ((wrap64 (63 - t214)) - t215))) 6 t228 w0 _ ?side1 ?side2 A42.out).mono ?_); (case side1 => repeat (first | (with_reducible first | exact HB.out | apply below_alloc | apply pw_below_drewN | apply below_drew1 | refine below_set ?_ GE209.out | refine below_set ?_ GE210.out) | exact HB.out)); (case side2 => exact Kd.R_tight rfl HO227.out); rintro e w51 ⟨v229, rfl, ho0, hb, hkp⟩; refine ⟨_, rfl, ?_⟩; have n0_ := Aside0.mk (blk_kept (by (with_reducible repeat (first | refine blk_drewN ?_ _ | refine blk_drew ?_ | refine blk_alloc ?_ _)); exact BK209.out) hkp (fun hs_ => (fun e_ => (Kd.R_ne HO227.out BK209.out (by decide)) e_) hs_)); have n1_ := Aside0.mk (blk_kept (by (with_reducible repeat (first | refine blk_drewN ?_ _ | refine blk_drew ?_ | refine blk_alloc ?_ _)); exact BK210.out) hkp (fun hs_ => (fun e_ => (Kd.R_ne HO227.out BK210.out (by decide)) e_) hs_)); have n2_ := Aside0.mk (Kd.R_mono (ok' := fun k_ => (P0_ k_ ∨ w.heap.size ≤ k_)) ho0 (fun k_ hk_ => Or.elim hk_ (fun hs_ => (HO227.out.1 k_ (hs_).symm)) (fun hn_ => (.inr (Nat.le_trans (by first | exact HK.out.1 | exact (show Kept w _ (fun k_ => P0_ k_) from by repeat (first | (with_reducible first | exact HK.out | apply Kept.alloc | apply Kept.drewN | apply Kept.drew | refine Kept.setCell ?_ (.inr GW209.out) _ | refine Kept.setCell ?_ (.inr GW210.out) _) | exact HK.out)).1) hn_))))); have n3_ := Aside0.mk (Kept.then_ (S := (fun k_ => P0_ k_)) (by repeat (first | (with_reducible first | exact HK.out | apply Kept.alloc | apply Kept.drewN | apply Kept.drew | refine Kept.setCell ?_ (.inr GW209.out) _ | refine Kept.setCell ?_ (.inr GW210.out) _) | exact HK.out)) hkp (fun k_ hs_ => (fun e_ => (HO227.out.1 k_ e_.symm)) hs_)); have n4_ := Aside0.mk (hb); clear BK209; clear BK210; clear HK; clear HB; clear HO227; have BK209 := n0_; have BK210 := n1_; have HO230 := n2_; have HK := n3_; have HB := n4_; clear n0_ n1_ n2_ n3_ n4_; (try clear hb); (try clear hkp); (try clear ho0); obtain ⟨Ao52, co52, eo52⟩ := Kd.R_slice HO230.out; subst eo52) | ((with_reducible refine gate_callee (f := 28) rfl ?_); refine goesL_ (some 69) rfl rfl Tryd.func28 (by kernel_rfl) rfl #[.slice Ao52 t228.length co52, .int .u64 ji44, .int .i64 (wrap64 ((wrap64 (64 - t214)) - t215))] rfl (by (try simp only [List.map_toArray, List.map_cons, List.map_nil]); first | done | (simp only [hji44]; rfl) | rfl | (simp only [List.length_drop, List.length_take]; rfl)) ?_; (with_reducible refine (thermographref03_Put.calls kj15 (fun k_ => some k_ = (.slice Ao52 t228.length co52 : Value).ownBlock) (.slice Ao52 t228.length co52) t228 ji44 (wrap64 ((wrap64 (64 - t214)) - t215)) t231 w0 _ ?side1 ?side2 A45.out).mono ?_); (case side1 => repeat (first | (with_reducible first | exact HB.out | apply below_alloc | apply pw_below_drewN | apply below_drew1 | refine below_set ?_ GE209.out | refine below_set ?_ GE210.out) | exact HB.out)); (case side2 => exact Kd.R_tight rfl HO230.out); rintro e w53 ⟨v232, rfl, ho0, hb, hkp⟩; refine ⟨_, rfl, ?_⟩; have n0_ := Aside0.mk (blk_kept (by (with_reducible repeat (first | refine blk_drewN ?_ _ | refine blk_drew ?_ | refine blk_alloc ?_ _)); exact BK209.out) hkp (fun hs_ => (fun e_ => (Kd.R_ne HO230.out BK209.out (by decide)) e_) hs_)); have n1_ := Aside0.mk (blk_kept (by (with_reducible repeat (first | refine blk_drewN ?_ _ | refine blk_drew ?_ | refine blk_alloc ?_ _)); exact BK210.out) hkp (fun hs_ => (fun e_ => (Kd.R_ne HO230.out BK210.out (by decide)) e_) hs_)); have n2_ := Aside0.mk (Kd.R_mono (ok' := fun k_ => (P0_ k_ ∨ w.heap.size ≤ k_)) ho0 (fun k_ hk_ => Or.elim hk_ (fun hs_ => (HO230.out.1 k_ (hs_).symm)) (fun hn_ => (.inr (Nat.le_trans (by first | exact HK.out.1 | exact (show Kept w _ (fun k_ => P0_ k_) from by repeat (first | (with_reducible first | exact HK.out | apply Kept.alloc | apply Kept.drewN | apply Kept.drew | refine Kept.setCell ?_ (.inr GW209.out) _ | refine Kept.setCell ?_ (.inr GW210.out) _) | exact HK.out)).1) hn_))))); have n3_ := Aside0.mk (Kept.then_ (S := (fun k_ => P0_ k_)) (by repeat (first | (with_reducible first | exact HK.out | apply Kept.alloc | apply Kept.drewN | apply Kept.drew | refine Kept.setCell ?_ (.inr GW209.out) _ | refine Kept.setCell ?_ (.inr GW210.out) _) | exact HK.out)) hkp (fun k_ hs_ => (fun e_ => (HO230.out.1 k_ e_.symm)) hs_)); have n4_ := Aside0.mk (hb); clear BK209; clear BK210; clear HK; clear HB; clear HO230; have BK209 := n0_; have BK210 := n1_; have HO233 := n2_; have HK := n3_; have HB := n4_; clear n0_ n1_ n2_ n3_ n4_; (try clear hb); (try clear hkp); (try clear ho0); have hnb54 := NB210_209.out; have hnc54 := NB209_210.out; have hcz55_0 : w53.cell? ⟨gb210, 0, none⟩ = some (.bool false) := (blk_cell BK210.out 0).trans rfl; have hcz55_1 : w53.cell? ⟨gb210, 1, none⟩ = some (.int .i64 0) := (blk_cell BK210.out 1).trans rfl; have hcz55_2 : w53.cell? ⟨gb210, 2, none⟩ = some (.int .i64 0) := (blk_cell BK210.out 2).trans rfl; have hfz55_0 := blk_frozen BK210.out 0; have hfz55_1 := blk_frozen BK210.out 1; have hfz55_2 := blk_frozen BK210.out 2))
            refine bodyPost_ret (results_tc rfl _ _ gb210 55 #[.bool true, .int .i64 t214, .int .i64 t215] (0, 0) _ rfl (by (with_reducible repeat (first | refine blk_drewN ?_ _ | refine blk_drew ?_ | refine blk_alloc ?_ _)); refine blk_put (cs := #[.bool true, .int .i64 t214, .int .i64 0]) ?_ 2 _ rfl; (with_reducible repeat (first | refine blk_drewN ?_ _ | refine blk_drew ?_ | refine blk_alloc ?_ _)); refine blk_put (cs := #[.bool true, .int .i64 0, .int .i64 0]) ?_ 1 _ rfl; (with_reducible repeat (first | refine blk_drewN ?_ _ | refine blk_drew ?_ | refine blk_alloc ?_ _)); refine blk_put (cs := #[.bool false, .int .i64 0, .int .i64 0]) ?_ 0 _ rfl; (with_reducible repeat (first | refine blk_drewN ?_ _ | refine blk_drew ?_ | refine blk_alloc ?_ _)); exact BK210.out) Tryd.underlying55 rfl (by kernel_rfl)) rfl ?_
            exact ⟨_, by first | rfl | (simp [errW_none, errW_some] <;> rfl) | (simp only [← hji44]; first | rfl | (simp [errW_none, errW_some] <;> rfl)) | (simp [*, errW_none, errW_some] <;> rfl), by (with_reducible repeat (first | apply Kd.R_alloc | apply Kd.R_drewN | apply Kd.R_drew)); exact Kd.R_mono (Kd.R_far (p := ⟨gb210, 2, none⟩) (Kd.R_far (p := ⟨gb210, 1, none⟩) (Kd.R_far (p := ⟨gb210, 0, none⟩) (Kd.R_types HO233.out BK210.out (by decide)) (fun _ hk => hk.2) (.bool true)) (fun _ hk => hk.2) (.int .i64 t214)) (fun _ hk => hk.2) (.int .i64 t215)) (fun _ hk => hk.1), by repeat (first | (with_reducible first | exact HB.out | apply below_alloc | apply pw_below_drewN | apply below_drew1 | refine below_set ?_ GE209.out | refine below_set ?_ GE210.out) | exact HB.out), by repeat (first | (with_reducible first | exact HK.out | apply Kept.alloc | apply Kept.drewN | apply Kept.drew | refine Kept.setCell ?_ (.inr GW209.out) _ | refine Kept.setCell ?_ (.inr GW210.out) _) | exact HK.out)⟩
          · rw [if_neg c43] at H
            exact absurd H (by simp)
end Go.Proofs.YtmnlbedgkjnodaaDoor.QB
namespace Go.Proofs.YtmnlbedgkjnodaaDoor.QB
open Go.RowKit Go.Proofs.YtmnlbedgkjnodaaDoorW.PrintWords Go.Proofs.YtmnlbedgkjnodaaDoorW.PrintLast Go.Proofs.YtmnlbedgkjnodaaDoorW.PrintMore
attribute [local go_sem] max2_int min2_int max_two min_two max_three min_three max_four min_four   -- for this text's walks alone
def thermographref05_Encode.l0 : Nat → List (S33) → List Int → List Int → Int → Int → Bool → Int → Int → Bool → Int → Int → Option (List Int × Int)
  | 0, _, _, _, _, _, _, _, _, _, _, _ => none
  | k + 1, x0, x5, x6, x9, x10, x248000, x248001, x248002, x249000, x249001, x249002 => if x10 < (x0.length : Int) then (if x10 = 0 then (if 0 < (x0.length : Int) then ((thermographref03_Put.f k x6 (IntKind.u64.wrap ((rd_T33 x0 0).f0)) 64).bind fun t256 => ((thermographref03_Put.f k t256 ((rd_T33 x0 0).f1) 64).bind fun t260 => ((thermographref03_Put.f k t260 ((rd_T33 x0 0).f2) 64).bind fun t264 => (thermographref05_Encode.l0 k x0 x5 t264 x9 (wrap64 (x10 + 1)) x248000 x248001 x248002 x249000 x249001 x249002)))) else (none)) else (if 0 ≤ x10 then (if 0 ≤ (wrap64 (x10 - 1)) then (if (wrap64 (x10 - 1)) < (x0.length : Int) then ((thermographref05_time.f k x6 (wrap64 ((wrap64 (((rd_T33 x0 x10).f0) - ((rd_T33 x0 (wrap64 (x10 - 1))).f0))) - x9))).bind fun t269 => ((thermographref05_value.f k t269 x248000 x248001 x248002 (Go.bits .xor .u64 ((rd_T33 x0 x10).f1) ((rd_T33 x0 (wrap64 (x10 - 1))).f1))).bind fun bt274 => ((thermographref05_value.f k bt274.1 x249000 x249001 x249002 (Go.bits .xor .u64 ((rd_T33 x0 x10).f2) ((rd_T33 x0 (wrap64 (x10 - 1))).f2))).bind fun bt282 => (thermographref05_Encode.l0 k x0 x5 bt282.1 (wrap64 (((rd_T33 x0 x10).f0) - ((rd_T33 x0 (wrap64 (x10 - 1))).f0))) (wrap64 (x10 + 1)) bt274.2.1 bt274.2.2.1 bt274.2.2.2 bt282.2.1 bt282.2.2.1 bt282.2.2.2)))) else (none)) else (none)) else (none))) else ((thermographref03_Bytes.f k x6).bind fun t249 => (if x5.length + t249.length < 140737488355328 then (some ((x5 ++ t249), 0)) else (none)))
def thermographref05_Encode.f (k : Nat) (l0 : List (S33)) : Option (List Int × Int) := (thermographref05_Check.f k l0).bind fun t240 => (if t240 = 0 then ((thermographref03_Uvarint.f k ([] : List Int) (IntKind.u64.wrap ((l0.length : Int)))).bind fun t241 => (thermographref05_Encode.l0 k l0 t241 (([] : List Int)) 0 0 false 0 0 false 0 0)) else (some (([] : List Int), t240)))
def thermographref05_Encode.T16 : Bool × List (List Nat × List Nat) := (true, [([], []), ([], []), ([0, 1], [0, 1]), ([2], [2]), ([3], [3]), ([], []), ([], []), ([6], [6]), ([5, 7], [5, 7]), ([8], [8]), ([9], [9]), ([4, 10], [4, 10]), ([11, 0, 1, 2, 3, 4, 5, 6, 7, 8, 9, 10, 11], [11])])
def thermographref05_Encode.B16 : List Nat := [0, 0, 3, 7, 15, 0, 0, 64, 224, 480, 992, 2047, 4095]
theorem thermographref05_Encode.tab16 : rtab .any (opsOf Tryd.f14 16) = thermographref05_Encode.T16 := by kernel_rfl
theorem thermographref05_Encode.bits16 : waitsOk thermographref05_Encode.T16.2 thermographref05_Encode.B16 = true := by kernel_rfl
def thermographref05_Encode.T19 : Bool × List (List Nat × List Nat) := (true, [([], []), ([], []), ([], []), ([], []), ([2, 3], [2, 3]), ([4], [4]), ([5], [5]), ([], []), ([], []), ([8], [8]), ([7, 9], [7, 9]), ([10], [10]), ([11], [11]), ([6, 12], [6, 12]), ([0, 1, 13], [0, 1, 13]), ([14], [14]), ([15], [15]), ([15], [15]), ([16, 14, 0, 1, 2, 3, 4, 5, 6, 7, 8, 9, 10, 11, 12, 13, 14, 15, 16], [0, 16]), ([17, 18, 0, 1, 2, 3, 4, 5, 6, 7, 8, 9, 10, 11, 12, 13, 14, 15, 16, 17, 18], [17])])
def thermographref05_Encode.B19 : List Nat := [0, 0, 0, 0, 12, 28, 60, 0, 0, 256, 896, 1920, 3968, 8188, 16383, 32767, 65535, 65535, 131071, 524287]
theorem thermographref05_Encode.tab19 : rtab .any (opsOf Tryd.f14 19) = thermographref05_Encode.T19 := by kernel_rfl
theorem thermographref05_Encode.bits19 : waitsOk thermographref05_Encode.T19.2 thermographref05_Encode.B19 = true := by kernel_rfl
def thermographref05_Encode.T20 : Bool × List (List Nat × List Nat) := (true, [([], []), ([], []), ([], []), ([], []), ([2, 3], [2, 3]), ([4], [4]), ([5], [5]), ([], []), ([], []), ([8], [8]), ([7, 9], [7, 9]), ([10], [10]), ([11], [11]), ([6, 12], [6, 12]), ([0, 1, 13], [0, 1, 13]), ([14], [14]), ([15], [15]), ([15], [15]), ([16, 14, 0, 1, 2, 3, 4, 5, 6, 7, 8, 9, 10, 11, 12, 13, 14, 15, 16], [0, 16]), ([17, 18, 0, 1, 2, 3, 4, 5, 6, 7, 8, 9, 10, 11, 12, 13, 14, 15, 16, 17, 18], [17])])
def thermographref05_Encode.B20 : List Nat := [0, 0, 0, 0, 12, 28, 60, 0, 0, 256, 896, 1920, 3968, 8188, 16383, 32767, 65535, 65535, 131071, 524287]
theorem thermographref05_Encode.tab20 : rtab .any (opsOf Tryd.f14 20) = thermographref05_Encode.T20 := by kernel_rfl
theorem thermographref05_Encode.bits20 : waitsOk thermographref05_Encode.T20.2 thermographref05_Encode.B20 = true := by kernel_rfl
set_option maxHeartbeats 8000000 in
set_option maxRecDepth 100000 in
theorem thermographref05_Encode.calls (k : Nat) (A0 : Option Addr) (c0 : Nat) (l0 : List (S33)) (r1 : List Int) (r2 : Int) (w : World) (hr0 : Kd.C k33 w A0 l0.length l0) (hc0 : l0.length ≤ c0) (h : thermographref05_Encode.f k l0 = some (r1, r2)) :
    Calls Tryd.prog 14 #[.slice A0 l0.length c0] w fun e w' => ∃ v0_ : Value, e = .returned (.tuple #[v0_, .int .i64 r2]) ∧ Kd.R (Kd.int .u8) 5 w' w.heap.size (fun _ => True) v0_ r1 ∧ Below w.heap.size w w' := by
  have hu55 := Tryd.underlying55
  have HR0 := Aside0.mk hr0
  have HC0 := Aside0.mk hc0
  clear hr0 hc0
  have HB := Aside0.mk (Below.refl w.heap.size w)
  have H : ((thermographref05_Check.f k l0).bind fun t240 => (if t240 = 0 then ((thermographref03_Uvarint.f k ([] : List Int) (IntKind.u64.wrap ((l0.length : Int)))).bind fun t241 => (thermographref05_Encode.l0 k l0 t241 (([] : List Int)) 0 0 false 0 0 false 0 0)) else (some (([] : List Int), t240)))) = some (r1, r2) := h
  clear h
  replace H := Option.bind_eq_some_iff.mp H
  obtain ⟨t240, A20, H⟩ := H
  replace H : (if t240 = 0 then ((thermographref03_Uvarint.f k ([] : List Int) (IntKind.u64.wrap ((l0.length : Int)))).bind fun t241 => (thermographref05_Encode.l0 k l0 t241 (([] : List Int)) 0 0 false 0 0 false 0 0)) else (some (([] : List Int), t240))) = some (r1, r2) := H
  have A2 := Aside0.mk A20
  clear A20
  by_cases c3 : t240 = 0
  · rw [if_pos c3] at H
    have c3b0 : (t240 == 0) = true := beq_iff_eq.mpr c3
    have c3b1 : (t240 != 0) = false := bne_eq_false_iff_eq.mpr c3
    clear c3
    replace H := Option.bind_eq_some_iff.mp H
    obtain ⟨t241, A40, H⟩ := H
    replace H : (thermographref05_Encode.l0 k l0 t241 (([] : List Int)) 0 0 false 0 0 false 0 0) = some (r1, r2) := H
    have A4 := Aside0.mk A40
    clear A40
    obtain ⟨y244, hy244⟩ : ∃ y_ : List Int, y_ = (([] : List Int)) := ⟨_, rfl⟩
    replace H : (thermographref05_Encode.l0 k l0 t241 y244 0 0 false 0 0 false 0 0) = some (r1, r2) := by first | (rw [hy244]; with_reducible exact H) | (have H2_ := (Option.bind_some _ _).symm.trans H; rw [hy244]; with_reducible exact H2_) | (have H2_ := (Option.bind_some _ _).symm.trans H; with_reducible exact H2_) | with_reducible exact H | (rw [hy244]; exact H) | exact H
    have Ny244 := Aside0.mk hy244
    clear hy244
    have H' := Aside0.mk H
    clear H
    go_enter Tryd.func14, Tryd.ntmps14
    go_wp2_with (first | ((with_reducible refine gate_callee (f := 12) rfl ?_); refine goesL_ (some 13) rfl rfl Tryd.func12 (by kernel_rfl) rfl #[.slice A0 l0.length c0] rfl (by (try simp only [List.map_toArray, List.map_cons, List.map_nil]); first | done | rfl | (simp only [List.length_drop, List.length_take]; rfl)) ?_; (with_reducible refine (thermographref05_Check.calls k _ _ l0 t240 _ ?side1 ?side2 A2.out).mono ?_); (case side1 => repeat (first | exact HR0.out | (with_reducible refine Kd.C_alloc ?_ _) | (with_reducible refine Kd.C_drewN ?_ _) | (with_reducible refine Kd.C_drew ?_))); (case side2 => exact HC0.out); rintro e w' ⟨rfl, ⟨nd, rfl⟩⟩; refine ⟨_, rfl, ?_⟩) | ((with_reducible refine gate_callee (f := 27) rfl ?_); refine goesL_ (some 20) rfl rfl Tryd.func27 (by kernel_rfl) rfl #[.slice none 0 0, .int .u64 (IntKind.u64.wrap ((l0.length : Int)))] rfl (by (try simp only [List.map_toArray, List.map_cons, List.map_nil]); first | done | rfl | (simp only [List.length_drop, List.length_take]; rfl)) ?_; (refine (thermographref03_Uvarint.calls k _ _ ([] : List Int) (IntKind.u64.wrap ((l0.length : Int))) t241 _ ?side1 ?side2 A4.out).mono ?_); (case side1 => exact Kd.C_nil _ _); (case side2 => exact Nat.le_refl _); rintro e w5 ⟨v242, rfl, ho0, hb⟩; refine ⟨_, rfl, ?_⟩; have n0_ := Aside0.mk (Kd.R_lower ho0 (below_size (by repeat (first | (with_reducible first | exact HB.out | apply below_alloc | apply pw_below_drewN | apply below_drew1) | exact HB.out)))); have n1_ := Aside0.mk (below_step (by repeat (first | (with_reducible first | exact HB.out | apply below_alloc | apply pw_below_drewN | apply below_drew1) | exact HB.out)) hb); clear HB; have HO243 := n0_; have HB := n1_; clear n0_ n1_; (try clear hb); (try clear hb2); (try clear hk); (try clear hi); (try clear ho0)) | ((with_reducible refine gate_dst (N := 21) rfl ?_); refine Kd.R_lit (Kd.int .u8) _ 5 ?hg (N := 21) ?hd (xs := ([] : List Int)) (inner := []) (ok := fun _ => True) (okp := fun _ => True) ?hr ?hp (fun _ hk => hk) trivial (Below.refl _ _) (Nat.le_refl _) (by simp) ?_; (case hd => rfl); (case hg => rfl); (case hr => first | (go_simp; done) | (go_simp; rfl)); (case hp => exact (Reps.none _ _)); intro v245 w6 ho7 hb hg_ hnew_; clear hg_ hnew_; (first | rw [← Ny244.out] at ho7 | (simp only [Int.reduceToNat] at ho7; rw [← Ny244.out] at ho7)); have n0_ := Aside0.mk (Kd.R_elder' (by (with_reducible repeat (first | apply Kd.R_alloc | apply Kd.R_drewN | apply Kd.R_drew)); exact HO243.out) (Kd.R_base ho7) hb); have n1_ := Aside0.mk (Kd.R_lower (Kd.R_new' ho7 (Kd.R_lt (by (with_reducible repeat (first | apply Kd.R_alloc | apply Kd.R_drewN | apply Kd.R_drew)); exact HO243.out))) (below_size (by repeat (first | (with_reducible first | exact HB.out | apply below_alloc | apply pw_below_drewN | apply below_drew1) | exact HB.out)))); have n2_ := Aside0.mk (below_step (by repeat (first | (with_reducible first | exact HB.out | apply below_alloc | apply pw_below_drewN | apply below_drew1) | exact HB.out)) hb); clear HO243; clear HB; have HO243 := n0_; have HO246 := n1_; have HB := n2_; clear n0_ n1_ n2_; clear hb ho7) | ((with_reducible refine gate_dst (N := 7) rfl ?_); refine box_event ?hg (N := 7) ?hd (cs := #[.bool false, .int .i64 0, .int .i64 0]) (t := 55) ?hr ?_; (case hd => rfl); (case hg => rfl); (case hr => first | (go_simp; done) | (go_simp; rfl)); intro gb247 hg w8 hbox hb; have n0_ := Aside0.mk (Kd.R_below (by (with_reducible repeat (first | apply Kd.R_alloc | apply Kd.R_drewN | apply Kd.R_drew)); exact HO243.out) hb); have n1_ := Aside0.mk (Kd.R_below (by (with_reducible repeat (first | apply Kd.R_alloc | apply Kd.R_drewN | apply Kd.R_drew)); exact HO246.out) hb); have n2_ := Aside0.mk (below_step (by repeat (first | (with_reducible first | exact HB.out | apply below_alloc | apply pw_below_drewN | apply below_drew1) | exact HB.out)) hb); have n3_ := Aside0.mk (hbox); have n4_ := Aside0.mk ((by rw [hg]; exact (below_size (by repeat (first | (with_reducible first | exact HB.out | apply below_alloc | apply pw_below_drewN | apply below_drew1) | exact HB.out))) : w.heap.size ≤ gb247)); have n5_ := Aside0.mk ((by rw [hg]; exact (below_size (by repeat (first | (with_reducible first | exact HB.out | apply below_alloc | apply pw_below_drewN | apply below_drew1) | exact HB.out))) : w.heap.size ≤ gb247)); clear HO243; clear HO246; clear HB; have HO243 := n0_; have HO246 := n1_; have HB := n2_; have BK247 := n3_; have GW247 := n4_; have GE247 := n5_; clear n0_ n1_ n2_ n3_ n4_ n5_; clear hb hbox hg; have hcz9_0 : w8.cell? ⟨gb247, 0, none⟩ = some (.bool false) := (blk_cell BK247.out 0).trans rfl; have hcz9_1 : w8.cell? ⟨gb247, 1, none⟩ = some (.int .i64 0) := (blk_cell BK247.out 1).trans rfl; have hcz9_2 : w8.cell? ⟨gb247, 2, none⟩ = some (.int .i64 0) := (blk_cell BK247.out 2).trans rfl; have hfz9_0 := blk_frozen BK247.out 0; have hfz9_1 := blk_frozen BK247.out 1; have hfz9_2 := blk_frozen BK247.out 2) | ((with_reducible refine gate_dst (N := 8) rfl ?_); refine box_event ?hg (N := 8) ?hd (cs := #[.bool false, .int .i64 0, .int .i64 0]) (t := 55) ?hr ?_; (case hd => rfl); (case hg => rfl); (case hr => first | (go_simp; done) | (go_simp; rfl)); intro gb248 hg w10 hbox hb; have n0_ := Aside0.mk (Kd.R_below (by (with_reducible repeat (first | apply Kd.R_alloc | apply Kd.R_drewN | apply Kd.R_drew)); exact (Kd.R_mono (Kd.R_far (p := ⟨gb247, 2, none⟩) (Kd.R_far (p := ⟨gb247, 1, none⟩) (Kd.R_far (p := ⟨gb247, 0, none⟩) (Kd.R_types HO243.out BK247.out (by decide)) (fun _ hk => hk.2) (.bool false)) (fun _ hk => hk.2) (.int .i64 0)) (fun _ hk => hk.2) (.int .i64 0)) (fun _ h_ => h_.1))) hb); have n1_ := Aside0.mk (Kd.R_below (by (with_reducible repeat (first | apply Kd.R_alloc | apply Kd.R_drewN | apply Kd.R_drew)); exact (Kd.R_mono (Kd.R_far (p := ⟨gb247, 2, none⟩) (Kd.R_far (p := ⟨gb247, 1, none⟩) (Kd.R_far (p := ⟨gb247, 0, none⟩) (Kd.R_types HO246.out BK247.out (by decide)) (fun _ hk => hk.2) (.bool false)) (fun _ hk => hk.2) (.int .i64 0)) (fun _ hk => hk.2) (.int .i64 0)) (fun _ h_ => h_.1))) hb); have n2_ := Aside0.mk (blk_below (g := gb247) (o := .cells #[.bool false, .int .i64 0, .int .i64 0] 55 (0, 0)) (by (with_reducible repeat (first | refine blk_drewN ?_ _ | refine blk_drew ?_ | refine blk_alloc ?_ _)); refine blk_put (cs := #[.bool false, .int .i64 0, .int .i64 0]) ?_ 2 _ rfl; (with_reducible repeat (first | refine blk_drewN ?_ _ | refine blk_drew ?_ | refine blk_alloc ?_ _)); refine blk_put (cs := #[.bool false, .int .i64 0, .int .i64 0]) ?_ 1 _ rfl; (with_reducible repeat (first | refine blk_drewN ?_ _ | refine blk_drew ?_ | refine blk_alloc ?_ _)); refine blk_put (cs := #[.bool false, .int .i64 0, .int .i64 0]) ?_ 0 _ rfl; (with_reducible repeat (first | refine blk_drewN ?_ _ | refine blk_drew ?_ | refine blk_alloc ?_ _)); exact BK247.out) hb); have n3_ := Aside0.mk (below_step (by repeat (first | (with_reducible first | exact HB.out | apply below_alloc | apply pw_below_drewN | apply below_drew1 | refine below_set ?_ GE247.out) | exact HB.out)) hb); have n4_ := Aside0.mk (hbox); have n5_ := Aside0.mk ((by rw [hg]; exact (below_size (by repeat (first | (with_reducible first | exact HB.out | apply below_alloc | apply pw_below_drewN | apply below_drew1 | refine below_set ?_ GE247.out) | exact HB.out))) : w.heap.size ≤ gb248)); have n6_ := Aside0.mk ((by rw [hg]; exact (below_size (by repeat (first | (with_reducible first | exact HB.out | apply below_alloc | apply pw_below_drewN | apply below_drew1 | refine below_set ?_ GE247.out) | exact HB.out))) : w.heap.size ≤ gb248)); have n7_ := Aside0.mk ((by rw [hg]; exact Nat.ne_of_lt (blk_lt (g := gb247) (o := .cells #[.bool false, .int .i64 0, .int .i64 0] 55 (0, 0)) (by (with_reducible repeat (first | refine blk_drewN ?_ _ | refine blk_drew ?_ | refine blk_alloc ?_ _)); refine blk_put (cs := #[.bool false, .int .i64 0, .int .i64 0]) ?_ 2 _ rfl; (with_reducible repeat (first | refine blk_drewN ?_ _ | refine blk_drew ?_ | refine blk_alloc ?_ _)); refine blk_put (cs := #[.bool false, .int .i64 0, .int .i64 0]) ?_ 1 _ rfl; (with_reducible repeat (first | refine blk_drewN ?_ _ | refine blk_drew ?_ | refine blk_alloc ?_ _)); refine blk_put (cs := #[.bool false, .int .i64 0, .int .i64 0]) ?_ 0 _ rfl; (with_reducible repeat (first | refine blk_drewN ?_ _ | refine blk_drew ?_ | refine blk_alloc ?_ _)); exact BK247.out)) : gb247 ≠ gb248)); have n8_ := Aside0.mk ((by rw [hg]; exact Nat.ne_of_gt (blk_lt (g := gb247) (o := .cells #[.bool false, .int .i64 0, .int .i64 0] 55 (0, 0)) (by (with_reducible repeat (first | refine blk_drewN ?_ _ | refine blk_drew ?_ | refine blk_alloc ?_ _)); refine blk_put (cs := #[.bool false, .int .i64 0, .int .i64 0]) ?_ 2 _ rfl; (with_reducible repeat (first | refine blk_drewN ?_ _ | refine blk_drew ?_ | refine blk_alloc ?_ _)); refine blk_put (cs := #[.bool false, .int .i64 0, .int .i64 0]) ?_ 1 _ rfl; (with_reducible repeat (first | refine blk_drewN ?_ _ | refine blk_drew ?_ | refine blk_alloc ?_ _)); refine blk_put (cs := #[.bool false, .int .i64 0, .int .i64 0]) ?_ 0 _ rfl; (with_reducible repeat (first | refine blk_drewN ?_ _ | refine blk_drew ?_ | refine blk_alloc ?_ _)); exact BK247.out)) : gb248 ≠ gb247)); clear HO243; clear HO246; clear BK247; clear HB; have HO243 := n0_; have HO246 := n1_; have BK247 := n2_; have HB := n3_; have BK248 := n4_; have GW248 := n5_; have GE248 := n6_; have NB247_248 := n7_; have NB248_247 := n8_; clear n0_ n1_ n2_ n3_ n4_ n5_ n6_ n7_ n8_; clear hb hbox hg; have hnb11 := NB248_247.out; have hnc11 := NB247_248.out; have hcz12_0 : w10.cell? ⟨gb248, 0, none⟩ = some (.bool false) := (blk_cell BK248.out 0).trans rfl; have hcz12_1 : w10.cell? ⟨gb248, 1, none⟩ = some (.int .i64 0) := (blk_cell BK248.out 1).trans rfl; have hcz12_2 : w10.cell? ⟨gb248, 2, none⟩ = some (.int .i64 0) := (blk_cell BK248.out 2).trans rfl; have hfz12_0 := blk_frozen BK248.out 0; have hfz12_1 := blk_frozen BK248.out 1; have hfz12_2 := blk_frozen BK248.out 2))
    go_loopg [6, 9, 10] k (fun kq v6 v9 v10 w' => ∃ (x6_1 : List Int) (x9_1 : Int) (x10_1 : Int) (x248000_1 : Bool) (x248001_1 : Int) (x248002_1 : Int) (x249000_1 : Bool) (x249001_1 : Int) (x249002_1 : Int), v9 = .int .i64 x9_1 ∧ v10 = .int .i64 x10_1 ∧ Aside0 (thermographref05_Encode.l0 kq l0 t241 x6_1 x9_1 x10_1 x248000_1 x248001_1 x248002_1 x249000_1 x249001_1 x249002_1 = some (r1, r2)) ∧ Aside0 (kq ≤ k) ∧ Aside0 (Kd.R (Kd.int .u8) 5 w' w.heap.size (fun k_ => some k_ ≠ (v6 : Value).ownBlock) v242 t241) ∧ Aside0 (Kd.R (Kd.int .u8) 5 w' w.heap.size (fun k_ => some k_ ≠ (v242 : Value).ownBlock) v6 x6_1) ∧ Aside0 (w'.heap[gb247]? = some (.cells #[.bool x248000_1, .int .i64 x248001_1, .int .i64 x248002_1] 55 (0, 0))) ∧ Aside0 (w'.heap[gb248]? = some (.cells #[.bool x249000_1, .int .i64 x249001_1, .int .i64 x249002_1] 55 (0, 0))) ∧ Aside0 (Below w.heap.size w w'))
    case atStart => exact ⟨(y244), (0), (0), (false), (0), (0), (false), (0), (0), (by first | rfl | (simp; done) | (simp [*]; done)), (by first | rfl | (simp; done) | (simp [*]; done)), H', ⟨Nat.le_refl _⟩, ⟨by (with_reducible repeat (first | apply Kd.R_alloc | apply Kd.R_drewN | apply Kd.R_drew)); exact Kd.R_mono (Kd.R_far (p := ⟨gb248, 2, none⟩) (Kd.R_far (p := ⟨gb248, 1, none⟩) (Kd.R_far (p := ⟨gb248, 0, none⟩) (Kd.R_types HO243.out BK248.out (by decide)) (fun _ hk => hk.2) (.bool false)) (fun _ hk => hk.2) (.int .i64 0)) (fun _ hk => hk.2) (.int .i64 0)) (fun _ hk => hk.1.2)⟩, ⟨by (with_reducible repeat (first | apply Kd.R_alloc | apply Kd.R_drewN | apply Kd.R_drew)); exact Kd.R_mono (Kd.R_far (p := ⟨gb248, 2, none⟩) (Kd.R_far (p := ⟨gb248, 1, none⟩) (Kd.R_far (p := ⟨gb248, 0, none⟩) (Kd.R_types HO246.out BK248.out (by decide)) (fun _ hk => hk.2) (.bool false)) (fun _ hk => hk.2) (.int .i64 0)) (fun _ hk => hk.2) (.int .i64 0)) (fun _ hk => hk.1.2)⟩, ⟨by (with_reducible repeat (first | refine blk_drewN ?_ _ | refine blk_drew ?_ | refine blk_alloc ?_ _)); refine blk_far ?_ NB247_248.out _; (with_reducible repeat (first | refine blk_drewN ?_ _ | refine blk_drew ?_ | refine blk_alloc ?_ _)); refine blk_far ?_ NB247_248.out _; (with_reducible repeat (first | refine blk_drewN ?_ _ | refine blk_drew ?_ | refine blk_alloc ?_ _)); refine blk_far ?_ NB247_248.out _; (with_reducible repeat (first | refine blk_drewN ?_ _ | refine blk_drew ?_ | refine blk_alloc ?_ _)); exact BK247.out⟩, ⟨by (with_reducible repeat (first | refine blk_drewN ?_ _ | refine blk_drew ?_ | refine blk_alloc ?_ _)); refine blk_put (cs := #[.bool false, .int .i64 0, .int .i64 0]) ?_ 2 _ rfl; (with_reducible repeat (first | refine blk_drewN ?_ _ | refine blk_drew ?_ | refine blk_alloc ?_ _)); refine blk_put (cs := #[.bool false, .int .i64 0, .int .i64 0]) ?_ 1 _ rfl; (with_reducible repeat (first | refine blk_drewN ?_ _ | refine blk_drew ?_ | refine blk_alloc ?_ _)); refine blk_put (cs := #[.bool false, .int .i64 0, .int .i64 0]) ?_ 0 _ rfl; (with_reducible repeat (first | refine blk_drewN ?_ _ | refine blk_drew ?_ | refine blk_alloc ?_ _)); exact BK248.out⟩, ⟨by repeat (first | (with_reducible first | exact HB.out | apply below_alloc | apply pw_below_drewN | apply below_drew1 | refine below_set ?_ GE247.out | refine below_set ?_ GE248.out) | exact HB.out)⟩⟩
    case round =>
      clear H'
      try clear c1
      try clear c2
      try clear p2
      try clear c3
      try clear c3b0
      try clear c3b1
      try clear c11
      try clear c12
      try clear hcz12_0
      try clear hcz12_1
      try clear hcz12_2
      try clear hcz9_0
      try clear hcz9_1
      try clear hcz9_2
      try clear hfz12_0
      try clear hfz12_1
      try clear hfz12_2
      try clear hfz9_0
      try clear hfz9_1
      try clear hfz9_2
      obtain ⟨x6_1, x9_1, x10_1, x248000_1, x248001_1, x248002_1, x249000_1, x249001_1, x249002_1, rfl, rfl, HA, HK1, HO_5, HO_6, BK247, BK248, HB⟩ := hrel
      cases gk with
      | zero => exact absurd HA.out (by simp [thermographref05_Encode.l0])
      | succ k1 =>
        have H := HA.out
        clear HA
        simp only [thermographref05_Encode.l0] at H
        by_cases c13 : x10_1 < (l0.length : Int)
        · rw [if_pos c13] at H
          have c13b0 : decide (x10_1 < (l0.length : Int)) = true := decide_eq_true c13
          clear c13
          by_cases c14 : x10_1 = 0
          · rw [if_pos c14] at H
            have c14b0 : (x10_1 == 0) = true := beq_iff_eq.mpr c14
            have c14b1 : (x10_1 != 0) = false := bne_eq_false_iff_eq.mpr c14
            clear c14
            by_cases c15 : 0 < (l0.length : Int)
            · rw [if_pos c15] at H
              have c15b0 : decide (0 < (l0.length : Int)) = true := decide_eq_true c15
              have c15b1 : decide (0 < l0.length) = true := decide_eq_true (by omega)
              clear c15
              replace H := Option.bind_eq_some_iff.mp H
              obtain ⟨t256, A160, H⟩ := H
              replace H : ((thermographref03_Put.f k1 t256 ((rd_T33 l0 0).f1) 64).bind fun t260 => ((thermographref03_Put.f k1 t260 ((rd_T33 l0 0).f2) 64).bind fun t264 => (thermographref05_Encode.l0 k1 l0 t241 t264 x9_1 (wrap64 (x10_1 + 1)) x248000_1 x248001_1 x248002_1 x249000_1 x249001_1 x249002_1))) = some (r1, r2) := H
              have A16 := Aside0.mk A160
              clear A160
              replace H := Option.bind_eq_some_iff.mp H
              obtain ⟨t260, A170, H⟩ := H
              replace H : ((thermographref03_Put.f k1 t260 ((rd_T33 l0 0).f2) 64).bind fun t264 => (thermographref05_Encode.l0 k1 l0 t241 t264 x9_1 (wrap64 (x10_1 + 1)) x248000_1 x248001_1 x248002_1 x249000_1 x249001_1 x249002_1)) = some (r1, r2) := H
              have A17 := Aside0.mk A170
              clear A170
              replace H := Option.bind_eq_some_iff.mp H
              obtain ⟨t264, A180, H⟩ := H
              replace H : (thermographref05_Encode.l0 k1 l0 t241 t264 x9_1 (wrap64 (x10_1 + 1)) x248000_1 x248001_1 x248002_1 x249000_1 x249001_1 x249002_1) = some (r1, r2) := H
              have A18 := Aside0.mk A180
              clear A180
              have H' := Aside0.mk H
              clear H
              have p255 : 0 ≤ (0 : Int) := (by omega)
              have q255 : 0 < (l0.length : Int) := of_decide_eq_true (by first | (with_reducible assumption) | assumption)
              obtain ⟨ad255, e255, hx255_0, hx255_1, hx255_2⟩ := at_T33 HR0.out 0 p255 q255
              cases e255
              have qi255 : (0 < l0.length) = True := eq_true (by omega)
              (try rw [show ((0 : Int)).toNat = 0 from rfl] at hx255_0)
              (try rw [show 0 * 3 = 0 from rfl] at hx255_0)
              (try rw [Addr.add_zero'] at hx255_0)
              (try rw [show ((0 : Int)).toNat = 0 from rfl] at hx255_1)
              (try rw [show 0 * 3 = 0 from rfl] at hx255_1)
              (try rw [Addr.add_zero'] at hx255_1)
              (try rw [show ((0 : Int)).toNat = 0 from rfl] at hx255_2)
              (try rw [show 0 * 3 = 0 from rfl] at hx255_2)
              (try rw [Addr.add_zero'] at hx255_2)
              replace hx255_0 := (HB.out.cell (World.block_lt_of_cell? w _ hx255_0)).trans hx255_0
              replace hx255_1 := (HB.out.cell (World.block_lt_of_cell? w _ hx255_1)).trans hx255_1
              replace hx255_2 := (HB.out.cell (World.block_lt_of_cell? w _ hx255_2)).trans hx255_2
              replace p255 := eq_true p255
              replace q255 := eq_true q255
              obtain ⟨Ao19, co19, eo19⟩ := Kd.R_slice HO_6.out
              subst eo19
              go_wp2_with (first | ((with_reducible refine gate_callee (f := 28) rfl ?_); refine goesL_ (some 38) rfl rfl Tryd.func28 (by kernel_rfl) rfl #[.slice Ao19 x6_1.length co19, .int .u64 (IntKind.u64.wrap ((rd_T33 l0 0).f0)), .int .i64 64] rfl (by (try simp only [List.map_toArray, List.map_cons, List.map_nil]); first | done | rfl | (simp only [List.length_drop, List.length_take]; rfl)) ?_; (with_reducible refine (thermographref03_Put.calls k1 (fun k_ => some k_ = (.slice Ao19 x6_1.length co19 : Value).ownBlock) (.slice Ao19 x6_1.length co19) x6_1 (IntKind.u64.wrap ((rd_T33 l0 0).f0)) 64 t256 w _ ?side1 ?side2 A16.out).mono ?_); (case side1 => repeat (first | (with_reducible first | exact HB.out | apply below_alloc | apply pw_below_drewN | apply below_drew1 | refine below_set ?_ GE247.out | refine below_set ?_ GE248.out) | exact HB.out)); (case side2 => exact Kd.R_tight rfl HO_6.out); rintro e w20 ⟨v257, rfl, ho0, hb, hkp⟩; refine ⟨_, rfl, ?_⟩; have n0_ := Aside0.mk (Kd.R_mono (ok' := fun k_ => some k_ ≠ (v257 : Value).ownBlock) (Kd.R_keptB (HO_5.out) hkp (fun k_ hk_ hs_ => (hk_) hs_)) (fun k_ hk_ => fun e_ => Or.elim (ho0.1 k_ e_.symm) (fun hs_ => hk_.2.1 hs_) (fun hn_ => Nat.not_le.2 hk_.2.2 hn_))); have n1_ := Aside0.mk (blk_kept (by (with_reducible repeat (first | refine blk_drewN ?_ _ | refine blk_drew ?_ | refine blk_alloc ?_ _)); exact BK247.out) hkp (fun hs_ => (fun e_ => (Kd.R_ne HO_6.out BK247.out (by decide)) e_) hs_)); have n2_ := Aside0.mk (blk_kept (by (with_reducible repeat (first | refine blk_drewN ?_ _ | refine blk_drew ?_ | refine blk_alloc ?_ _)); exact BK248.out) hkp (fun hs_ => (fun e_ => (Kd.R_ne HO_6.out BK248.out (by decide)) e_) hs_)); have n3_ := Aside0.mk (Kd.R_mono (ok' := fun k_ => some k_ ≠ (v242 : Value).ownBlock) ho0 (fun k_ hk_ => Or.elim hk_ (fun hs_ => fun e_ => (((HO_5.out).1 k_ e_.symm)) hs_) (fun hn_ => (Kd.fresh' (Kd.R_lt (by (with_reducible repeat (first | apply Kd.R_alloc | apply Kd.R_drewN | apply Kd.R_drew)); exact HO_5.out)) k_ hn_)))); have n4_ := Aside0.mk (hb); clear HO_5; clear BK247; clear BK248; clear HB; clear HO_6; have HO_5 := n0_; have BK247 := n1_; have BK248 := n2_; have HO258 := n3_; have HB := n4_; clear n0_ n1_ n2_ n3_ n4_; (try clear hb); (try clear hkp); (try clear ho0); have p259 : 0 ≤ (0 : Int) := (by omega); have q259 : 0 < (l0.length : Int) := of_decide_eq_true (by first | (with_reducible assumption) | assumption); obtain ⟨ad259, e259, hx259_0, hx259_1, hx259_2⟩ := at_T33 HR0.out 0 p259 q259; obtain rfl : ad255 = ad259 := (by injection e259); have qi259 : (0 < l0.length) = True := eq_true (by omega); (try rw [show ((0 : Int)).toNat = 0 from rfl] at hx259_0); (try rw [show 0 * 3 = 0 from rfl] at hx259_0); (try rw [Addr.add_zero'] at hx259_0); (try rw [show ((0 : Int)).toNat = 0 from rfl] at hx259_1); (try rw [show 0 * 3 = 0 from rfl] at hx259_1); (try rw [Addr.add_zero'] at hx259_1); (try rw [show ((0 : Int)).toNat = 0 from rfl] at hx259_2); (try rw [show 0 * 3 = 0 from rfl] at hx259_2); (try rw [Addr.add_zero'] at hx259_2); replace hx259_0 := (HB.out.cell (World.block_lt_of_cell? w _ hx259_0)).trans hx259_0; replace hx259_1 := (HB.out.cell (World.block_lt_of_cell? w _ hx259_1)).trans hx259_1; replace hx259_2 := (HB.out.cell (World.block_lt_of_cell? w _ hx259_2)).trans hx259_2; replace p259 := eq_true p259; replace q259 := eq_true q259; obtain ⟨Ao21, co21, eo21⟩ := Kd.R_slice HO258.out; subst eo21) | ((with_reducible refine gate_callee (f := 28) rfl ?_); refine goesL_ (some 44) rfl rfl Tryd.func28 (by kernel_rfl) rfl #[.slice Ao21 t256.length co21, .int .u64 ((rd_T33 l0 0).f1), .int .i64 64] rfl (by (try simp only [List.map_toArray, List.map_cons, List.map_nil]); first | done | rfl | (simp only [List.length_drop, List.length_take]; rfl)) ?_; (with_reducible refine (thermographref03_Put.calls k1 (fun k_ => some k_ = (.slice Ao21 t256.length co21 : Value).ownBlock) (.slice Ao21 t256.length co21) t256 ((rd_T33 l0 0).f1) 64 t260 w _ ?side1 ?side2 A17.out).mono ?_); (case side1 => repeat (first | (with_reducible first | exact HB.out | apply below_alloc | apply pw_below_drewN | apply below_drew1 | refine below_set ?_ GE247.out | refine below_set ?_ GE248.out) | exact HB.out)); (case side2 => exact Kd.R_tight rfl HO258.out); rintro e w22 ⟨v261, rfl, ho0, hb, hkp⟩; refine ⟨_, rfl, ?_⟩; have n0_ := Aside0.mk (Kd.R_mono (ok' := fun k_ => some k_ ≠ (v261 : Value).ownBlock) (Kd.R_keptB (HO_5.out) hkp (fun k_ hk_ hs_ => (hk_) hs_)) (fun k_ hk_ => fun e_ => Or.elim (ho0.1 k_ e_.symm) (fun hs_ => hk_.2.1 hs_) (fun hn_ => Nat.not_le.2 hk_.2.2 hn_))); have n1_ := Aside0.mk (blk_kept (by (with_reducible repeat (first | refine blk_drewN ?_ _ | refine blk_drew ?_ | refine blk_alloc ?_ _)); exact BK247.out) hkp (fun hs_ => (fun e_ => (Kd.R_ne HO258.out BK247.out (by decide)) e_) hs_)); have n2_ := Aside0.mk (blk_kept (by (with_reducible repeat (first | refine blk_drewN ?_ _ | refine blk_drew ?_ | refine blk_alloc ?_ _)); exact BK248.out) hkp (fun hs_ => (fun e_ => (Kd.R_ne HO258.out BK248.out (by decide)) e_) hs_)); have n3_ := Aside0.mk (Kd.R_mono (ok' := fun k_ => some k_ ≠ (v242 : Value).ownBlock) ho0 (fun k_ hk_ => Or.elim hk_ (fun hs_ => fun e_ => (((HO_5.out).1 k_ e_.symm)) hs_) (fun hn_ => (Kd.fresh' (Kd.R_lt (by (with_reducible repeat (first | apply Kd.R_alloc | apply Kd.R_drewN | apply Kd.R_drew)); exact HO_5.out)) k_ hn_)))); have n4_ := Aside0.mk (hb); clear HO_5; clear BK247; clear BK248; clear HB; clear HO258; have HO_5 := n0_; have BK247 := n1_; have BK248 := n2_; have HO262 := n3_; have HB := n4_; clear n0_ n1_ n2_ n3_ n4_; (try clear hb); (try clear hkp); (try clear ho0); have p263 : 0 ≤ (0 : Int) := (by omega); have q263 : 0 < (l0.length : Int) := of_decide_eq_true (by first | (with_reducible assumption) | assumption); obtain ⟨ad263, e263, hx263_0, hx263_1, hx263_2⟩ := at_T33 HR0.out 0 p263 q263; obtain rfl : ad255 = ad263 := (by injection e263); have qi263 : (0 < l0.length) = True := eq_true (by omega); (try rw [show ((0 : Int)).toNat = 0 from rfl] at hx263_0); (try rw [show 0 * 3 = 0 from rfl] at hx263_0); (try rw [Addr.add_zero'] at hx263_0); (try rw [show ((0 : Int)).toNat = 0 from rfl] at hx263_1); (try rw [show 0 * 3 = 0 from rfl] at hx263_1); (try rw [Addr.add_zero'] at hx263_1); (try rw [show ((0 : Int)).toNat = 0 from rfl] at hx263_2); (try rw [show 0 * 3 = 0 from rfl] at hx263_2); (try rw [Addr.add_zero'] at hx263_2); replace hx263_0 := (HB.out.cell (World.block_lt_of_cell? w _ hx263_0)).trans hx263_0; replace hx263_1 := (HB.out.cell (World.block_lt_of_cell? w _ hx263_1)).trans hx263_1; replace hx263_2 := (HB.out.cell (World.block_lt_of_cell? w _ hx263_2)).trans hx263_2; replace p263 := eq_true p263; replace q263 := eq_true q263; obtain ⟨Ao23, co23, eo23⟩ := Kd.R_slice HO262.out; subst eo23) | ((with_reducible refine gate_callee (f := 28) rfl ?_); refine goesL_ (some 50) rfl rfl Tryd.func28 (by kernel_rfl) rfl #[.slice Ao23 t260.length co23, .int .u64 ((rd_T33 l0 0).f2), .int .i64 64] rfl (by (try simp only [List.map_toArray, List.map_cons, List.map_nil]); first | done | rfl | (simp only [List.length_drop, List.length_take]; rfl)) ?_; (with_reducible refine (thermographref03_Put.calls k1 (fun k_ => some k_ = (.slice Ao23 t260.length co23 : Value).ownBlock) (.slice Ao23 t260.length co23) t260 ((rd_T33 l0 0).f2) 64 t264 w _ ?side1 ?side2 A18.out).mono ?_); (case side1 => repeat (first | (with_reducible first | exact HB.out | apply below_alloc | apply pw_below_drewN | apply below_drew1 | refine below_set ?_ GE247.out | refine below_set ?_ GE248.out) | exact HB.out)); (case side2 => exact Kd.R_tight rfl HO262.out); rintro e w24 ⟨v265, rfl, ho0, hb, hkp⟩; refine ⟨_, rfl, ?_⟩; have n0_ := Aside0.mk (Kd.R_mono (ok' := fun k_ => some k_ ≠ (v265 : Value).ownBlock) (Kd.R_keptB (HO_5.out) hkp (fun k_ hk_ hs_ => (hk_) hs_)) (fun k_ hk_ => fun e_ => Or.elim (ho0.1 k_ e_.symm) (fun hs_ => hk_.2.1 hs_) (fun hn_ => Nat.not_le.2 hk_.2.2 hn_))); have n1_ := Aside0.mk (blk_kept (by (with_reducible repeat (first | refine blk_drewN ?_ _ | refine blk_drew ?_ | refine blk_alloc ?_ _)); exact BK247.out) hkp (fun hs_ => (fun e_ => (Kd.R_ne HO262.out BK247.out (by decide)) e_) hs_)); have n2_ := Aside0.mk (blk_kept (by (with_reducible repeat (first | refine blk_drewN ?_ _ | refine blk_drew ?_ | refine blk_alloc ?_ _)); exact BK248.out) hkp (fun hs_ => (fun e_ => (Kd.R_ne HO262.out BK248.out (by decide)) e_) hs_)); have n3_ := Aside0.mk (Kd.R_mono (ok' := fun k_ => some k_ ≠ (v242 : Value).ownBlock) ho0 (fun k_ hk_ => Or.elim hk_ (fun hs_ => fun e_ => (((HO_5.out).1 k_ e_.symm)) hs_) (fun hn_ => (Kd.fresh' (Kd.R_lt (by (with_reducible repeat (first | apply Kd.R_alloc | apply Kd.R_drewN | apply Kd.R_drew)); exact HO_5.out)) k_ hn_)))); have n4_ := Aside0.mk (hb); clear HO_5; clear BK247; clear BK248; clear HB; clear HO262; have HO_5 := n0_; have BK247 := n1_; have BK248 := n2_; have HO266 := n3_; have HB := n4_; clear n0_ n1_ n2_ n3_ n4_; (try clear hb); (try clear hkp); (try clear ho0)))
              go_roundg k1
              case measure => have := HK1.out; omega
              case rel => exact ⟨(t264), (x9_1), (wrap64 (x10_1 + 1)), (x248000_1), (x248001_1), (x248002_1), (x249000_1), (x249001_1), (x249002_1), (by first | rfl | (simp; done) | (simp [*]; done)), (by first | rfl | (simp; done) | (simp [*]; done)), H', ⟨by have := HK1.out; omega⟩, ⟨by (with_reducible repeat (first | apply Kd.R_alloc | apply Kd.R_drewN | apply Kd.R_drew)); exact HO_5.out⟩, ⟨by (with_reducible repeat (first | apply Kd.R_alloc | apply Kd.R_drewN | apply Kd.R_drew)); exact HO266.out⟩, ⟨by (with_reducible repeat (first | refine blk_drewN ?_ _ | refine blk_drew ?_ | refine blk_alloc ?_ _)); exact BK247.out⟩, ⟨by (with_reducible repeat (first | refine blk_drewN ?_ _ | refine blk_drew ?_ | refine blk_alloc ?_ _)); exact BK248.out⟩, ⟨by repeat (first | (with_reducible first | exact HB.out | apply below_alloc | apply pw_below_drewN | apply below_drew1 | refine below_set ?_ GE247.out | refine below_set ?_ GE248.out) | exact HB.out)⟩⟩
            · rw [if_neg c15] at H
              exact absurd H (by simp)
          · rw [if_neg c14] at H
            have c14b0 : (x10_1 == 0) = false := beq_eq_false_iff_ne.mpr c14
            have c14b1 : (x10_1 != 0) = true := bne_iff_ne.mpr c14
            by_cases c25 : 0 ≤ x10_1
            · rw [if_pos c25] at H
              have c25b0 : decide (0 ≤ x10_1) = true := decide_eq_true c25
              clear c25
              obtain ⟨ji26, hji26⟩ : ∃ j_ : Int, (wrap64 (x10_1 - 1)) = j_ := ⟨_, rfl⟩
              replace H : (if 0 ≤ (ji26) then (if (ji26) < (l0.length : Int) then ((thermographref05_time.f k1 x6_1 (wrap64 ((wrap64 (((rd_T33 l0 x10_1).f0) - ((rd_T33 l0 (ji26)).f0))) - x9_1))).bind fun t269 => ((thermographref05_value.f k1 t269 x248000_1 x248001_1 x248002_1 (Go.bits .xor .u64 ((rd_T33 l0 x10_1).f1) ((rd_T33 l0 (ji26)).f1))).bind fun bt274 => ((thermographref05_value.f k1 bt274.1 x249000_1 x249001_1 x249002_1 (Go.bits .xor .u64 ((rd_T33 l0 x10_1).f2) ((rd_T33 l0 (ji26)).f2))).bind fun bt282 => (thermographref05_Encode.l0 k1 l0 t241 bt282.1 (wrap64 (((rd_T33 l0 x10_1).f0) - ((rd_T33 l0 (ji26)).f0))) (wrap64 (x10_1 + 1)) bt274.2.1 bt274.2.2.1 bt274.2.2.2 bt282.2.1 bt282.2.2.1 bt282.2.2.2)))) else (none)) else (none)) = some (r1, r2) := by first | (rw [hji26] at H; exact H) | (simp only [hji26] at H ⊢; exact H)
              have hji26w : (IntKind.i64.wrap (x10_1 - 1)) = ji26 := (i64_w _).trans hji26
              by_cases c27 : 0 ≤ (ji26)
              · rw [if_pos c27] at H
                have c27b0 : decide (0 ≤ (ji26)) = true := decide_eq_true c27
                clear c27
                by_cases c28 : (ji26) < (l0.length : Int)
                · rw [if_pos c28] at H
                  have c28b0 : decide ((ji26) < (l0.length : Int)) = true := decide_eq_true c28
                  clear c28
                  replace H := Option.bind_eq_some_iff.mp H
                  obtain ⟨t269, A290, H⟩ := H
                  replace H : ((thermographref05_value.f k1 t269 x248000_1 x248001_1 x248002_1 (Go.bits .xor .u64 ((rd_T33 l0 x10_1).f1) ((rd_T33 l0 (ji26)).f1))).bind fun bt274 => ((thermographref05_value.f k1 bt274.1 x249000_1 x249001_1 x249002_1 (Go.bits .xor .u64 ((rd_T33 l0 x10_1).f2) ((rd_T33 l0 (ji26)).f2))).bind fun bt282 => (thermographref05_Encode.l0 k1 l0 t241 bt282.1 (wrap64 (((rd_T33 l0 x10_1).f0) - ((rd_T33 l0 (ji26)).f0))) (wrap64 (x10_1 + 1)) bt274.2.1 bt274.2.2.1 bt274.2.2.2 bt282.2.1 bt282.2.2.1 bt282.2.2.2))) = some (r1, r2) := H
                  have A29 := Aside0.mk A290
                  clear A290
                  replace H := Option.bind_eq_some_iff.mp H
                  obtain ⟨⟨t274, t277, t278, t279⟩, A300, H⟩ := H
                  replace H : ((thermographref05_value.f k1 t274 x249000_1 x249001_1 x249002_1 (Go.bits .xor .u64 ((rd_T33 l0 x10_1).f2) ((rd_T33 l0 (ji26)).f2))).bind fun bt282 => (thermographref05_Encode.l0 k1 l0 t241 bt282.1 (wrap64 (((rd_T33 l0 x10_1).f0) - ((rd_T33 l0 (ji26)).f0))) (wrap64 (x10_1 + 1)) t277 t278 t279 bt282.2.1 bt282.2.2.1 bt282.2.2.2)) = some (r1, r2) := H
                  have A30 := Aside0.mk A300
                  clear A300
                  replace H := Option.bind_eq_some_iff.mp H
                  obtain ⟨⟨t282, t285, t286, t287⟩, A310, H⟩ := H
                  replace H : (thermographref05_Encode.l0 k1 l0 t241 t282 (wrap64 (((rd_T33 l0 x10_1).f0) - ((rd_T33 l0 (ji26)).f0))) (wrap64 (x10_1 + 1)) t277 t278 t279 t285 t286 t287) = some (r1, r2) := H
                  have A31 := Aside0.mk A310
                  clear A310
                  have H' := Aside0.mk H
                  clear H
                  try go_wp2
                  have n0_ := Aside0.mk (Kd.R_drew HO_5.out)
                  have n1_ := Aside0.mk (Kd.R_drew HO_6.out)
                  have n2_ := Aside0.mk (blk_drew BK247.out)
                  have n3_ := Aside0.mk (blk_drew BK248.out)
                  have n4_ := Aside0.mk (below_drew1 HB.out)
                  clear HO_5
                  clear HO_6
                  clear BK247
                  clear BK248
                  clear HB
                  have HO_5 := n0_
                  have HO_6 := n1_
                  have BK247 := n2_
                  have BK248 := n3_
                  have HB := n4_
                  clear n0_ n1_ n2_ n3_ n4_
                  have p267 : 0 ≤ (x10_1 : Int) := of_decide_eq_true (by first | (with_reducible assumption) | assumption)
                  have q267 : x10_1 < (l0.length : Int) := of_decide_eq_true (by first | (with_reducible assumption) | assumption)
                  obtain ⟨ad267, e267, hx267_0, hx267_1, hx267_2⟩ := at_T33 HR0.out x10_1 p267 q267
                  have hw267_2 := hx267_2
                  have hw267_1 := hx267_1
                  have hw267_0 := hx267_0
                  cases e267
                  replace hx267_0 := (HB.out.cell (World.block_lt_of_cell? w _ hx267_0)).trans hx267_0
                  replace hx267_1 := (HB.out.cell (World.block_lt_of_cell? w _ hx267_1)).trans hx267_1
                  replace hx267_2 := (HB.out.cell (World.block_lt_of_cell? w _ hx267_2)).trans hx267_2
                  replace p267 := eq_true p267
                  replace q267 := eq_true q267
                  have p268 : 0 ≤ ((ji26) : Int) := of_decide_eq_true (by first | (with_reducible assumption) | assumption)
                  have q268 : (ji26) < (l0.length : Int) := of_decide_eq_true (by first | (with_reducible assumption) | assumption)
                  obtain ⟨ad268, e268, hx268_0, hx268_1, hx268_2⟩ := at_T33 HR0.out (ji26) p268 q268
                  have hw268_2 := hx268_2
                  have hw268_1 := hx268_1
                  have hw268_0 := hx268_0
                  obtain rfl : ad267 = ad268 := (by injection e268)
                  replace hx268_0 := (HB.out.cell (World.block_lt_of_cell? w _ hx268_0)).trans hx268_0
                  replace hx268_1 := (HB.out.cell (World.block_lt_of_cell? w _ hx268_1)).trans hx268_1
                  replace hx268_2 := (HB.out.cell (World.block_lt_of_cell? w _ hx268_2)).trans hx268_2
                  replace p268 := eq_true p268
                  replace q268 := eq_true q268
                  refine start_ (n := 13) (S := fun w' => w'.cell? (ad267.add ((x10_1).toNat * 3)) = some (.int .i64 ((rd_T33 l0 x10_1).f0)) ∧ w'.cell? ⟨(ad267.add ((x10_1).toNat * 3)).block, (ad267.add ((x10_1).toNat * 3)).off + 1, none⟩ = some (.int .u64 ((rd_T33 l0 x10_1).f1)) ∧ w'.cell? ⟨(ad267.add ((x10_1).toNat * 3)).block, (ad267.add ((x10_1).toNat * 3)).off + 2, none⟩ = some (.int .u64 ((rd_T33 l0 x10_1).f2)) ∧ w'.cell? (ad267.add (((ji26)).toNat * 3)) = some (.int .i64 ((rd_T33 l0 (ji26)).f0)) ∧ w'.cell? ⟨(ad267.add (((ji26)).toNat * 3)).block, (ad267.add (((ji26)).toNat * 3)).off + 1, none⟩ = some (.int .u64 ((rd_T33 l0 (ji26)).f1)) ∧ w'.cell? ⟨(ad267.add (((ji26)).toNat * 3)).block, (ad267.add (((ji26)).toNat * 3)).off + 2, none⟩ = some (.int .u64 ((rd_T33 l0 (ji26)).f2))) (ds := []) #[false, false, false, false, false, false, false, false, false, false, false, false, false] (by kernel_rfl) rfl rfl ⟨((HB.out.cell (World.block_lt_of_cell? w _ hw267_0)).trans hw267_0), ((HB.out.cell (World.block_lt_of_cell? w _ hw267_1)).trans hw267_1), ((HB.out.cell (World.block_lt_of_cell? w _ hw267_2)).trans hw267_2), ((HB.out.cell (World.block_lt_of_cell? w _ hw268_0)).trans hw268_0), ((HB.out.cell (World.block_lt_of_cell? w _ hw268_1)).trans hw268_1), ((HB.out.cell (World.block_lt_of_cell? w _ hw268_2)).trans hw268_2)⟩ (fun hHeld => ?_); refine with_tabW thermographref05_Encode.tab16 thermographref05_Encode.bits16 (fun HT_ HW_ => ?_)
                  generalize wr.drew = w32 at HO_5 HO_6 BK247 BK248 HB hx267_0 hx267_1 hx267_2 hx268_0 hx268_1 hx268_2 hHeld ⊢
                  refine pure_ (i := 0) (N := some 51) (v := ?_) (a' := ?_) #[true, false, false, false, false, false, false, false, false, false, false, false, false] rfl rfl (any_of HT_.out (by kernel_rfl)) (fun _ _ _ h => h) (Or.inl ⟨by rfl, ?_⟩) ?_ ?_
                  rotate_left
                  · intro w'
                    go_simp
                    with_reducible rfl
                  rotate_left
                  · simp only [Act.put, List.setIfInBounds_toArray, List.set_cons_zero, List.set_cons_succ, i64_w, i32_w]
                    rfl
                  refine pure_ (i := 1) (N := some 52) (v := ?_) (a' := ?_) #[true, true, false, false, false, false, false, false, false, false, false, false, false] rfl rfl (any_of HT_.out (by kernel_rfl)) (fun _ _ _ h => h) (Or.inl ⟨by rfl, ?_⟩) ?_ ?_
                  rotate_left
                  · intro w'
                    go_simp
                    with_reducible rfl
                  rotate_left
                  · simp only [Act.put, List.setIfInBounds_toArray, List.set_cons_zero, List.set_cons_succ, i64_w, i32_w]
                    rfl
                  refine pure_ (i := 2) (N := some 53) (v := ?_) (a' := ?_) #[true, true, true, false, false, false, false, false, false, false, false, false, false] rfl rfl (any_of HT_.out (by kernel_rfl)) (fun _ _ _ h => h) (Or.inl ⟨by rfl, ?_⟩) ?_ ?_
                  rotate_left
                  · intro w'
                    go_simp
                    with_reducible rfl
                  rotate_left
                  · simp only [Act.put, List.setIfInBounds_toArray, List.set_cons_zero, List.set_cons_succ, i64_w, i32_w]
                    rfl
                  refine pure_ (i := 3) (N := some 54) (v := ?_) (a' := ?_) #[true, true, true, true, false, false, false, false, false, false, false, false, false] rfl rfl (any_of HT_.out (by kernel_rfl)) (fun _ _ _ h => h) (Or.inl ⟨by rfl, ?_⟩) ?_ ?_
                  rotate_left
                  · intro w'
                    go_simp
                    with_reducible rfl
                  rotate_left
                  · simp only [Act.put, List.setIfInBounds_toArray, List.set_cons_zero, List.set_cons_succ, i64_w, i32_w]
                    rfl
                  refine pure_ (i := 5) (N := some 56) (v := ?_) (a' := ?_) #[true, true, true, true, false, true, false, false, false, false, false, false, false] rfl rfl (any_of HT_.out (by kernel_rfl)) (fun _ _ _ h => h) (Or.inl ⟨by rfl, ?_⟩) ?_ ?_
                  rotate_left
                  · intro w'
                    go_simp
                    with_reducible rfl
                  rotate_left
                  · simp only [Act.put, List.setIfInBounds_toArray, List.set_cons_zero, List.set_cons_succ, i64_w, i32_w]
                    rfl
                  refine pure_ (i := 6) (N := some 57) (v := ?_) (a' := ?_) #[true, true, true, true, false, true, true, false, false, false, false, false, false] rfl rfl (any_of HT_.out (by kernel_rfl)) (fun _ _ _ h => h) (Or.inl ⟨by rfl, ?_⟩) ?_ ?_
                  rotate_left
                  · intro w'
                    go_simp
                    with_reducible rfl
                  rotate_left
                  · simp only [Act.put, List.setIfInBounds_toArray, List.set_cons_zero, List.set_cons_succ, i64_w, i32_w]
                    rfl
                  refine pure_ (i := 7) (N := some 58) (v := ?_) (a' := ?_) #[true, true, true, true, false, true, true, true, false, false, false, false, false] rfl rfl (any_of HT_.out (by kernel_rfl)) (fun _ _ _ h => h) (Or.inl ⟨by rfl, ?_⟩) ?_ ?_
                  rotate_left
                  · intro w'
                    go_simp
                    with_reducible rfl
                  rotate_left
                  · simp only [Act.put, List.setIfInBounds_toArray, List.set_cons_zero, List.set_cons_succ, i64_w, i32_w]
                    rfl
                  refine pure_ (i := 8) (N := some 59) (v := ?_) (a' := ?_) #[true, true, true, true, false, true, true, true, true, false, false, false, false] rfl rfl (any_of HT_.out (by kernel_rfl)) (fun _ _ _ h => h) (Or.inl ⟨by rfl, ?_⟩) ?_ ?_
                  rotate_left
                  · intro w'
                    go_simp
                    with_reducible rfl
                  rotate_left
                  · simp only [Act.put, List.setIfInBounds_toArray, List.set_cons_zero, List.set_cons_succ, i64_w, i32_w]
                    rfl
                  refine pure_ (i := 9) (N := some 60) (v := ?_) (a' := ?_) #[true, true, true, true, false, true, true, true, true, true, false, false, false] rfl rfl (any_of HT_.out (by kernel_rfl)) (fun _ _ _ h => h) (Or.inl ⟨by rfl, ?_⟩) ?_ ?_
                  rotate_left
                  · intro w'
                    go_simp
                    with_reducible rfl
                  rotate_left
                  · simp only [Act.put, List.setIfInBounds_toArray, List.set_cons_zero, List.set_cons_succ, i64_w, i32_w]
                    rfl
                  refine take_ (i := 4) (N := some 55) (v := ?_) (a' := ?_) #[true, true, true, true, true, true, true, true, true, true, false, false, false] rfl rfl (take_ofW HT_.out HW_.out (by kernel_rfl)) (fun _ _ _ h => h) (Or.inl ⟨by rfl, ?_⟩) hHeld ?_ ?_
                  rotate_left
                  · rintro w' ⟨s0, s1, s2, s3, s4, s5⟩
                    go_simp
                    with_reducible rfl
                  rotate_left
                  · simp only [Act.put, List.setIfInBounds_toArray, List.set_cons_zero, List.set_cons_succ, i64_w, i32_w]
                    rfl
                  refine take_ (i := 10) (N := some 61) (v := ?_) (a' := ?_) #[true, true, true, true, true, true, true, true, true, true, true, false, false] rfl rfl (take_ofW HT_.out HW_.out (by kernel_rfl)) (fun _ _ _ h => h) (Or.inl ⟨by rfl, ?_⟩) hHeld ?_ ?_
                  rotate_left
                  · rintro w' ⟨s0, s1, s2, s3, s4, s5⟩
                    go_simp
                    with_reducible rfl
                  rotate_left
                  · simp only [Act.put, List.setIfInBounds_toArray, List.set_cons_zero, List.set_cons_succ, i64_w, i32_w]
                    rfl
                  refine pure_ (i := 11) (N := some 62) (v := ?_) (a' := ?_) #[true, true, true, true, true, true, true, true, true, true, true, true, false] rfl rfl (any_of HT_.out (by kernel_rfl)) (fun _ _ _ h => h) (Or.inl ⟨by rfl, ?_⟩) ?_ ?_
                  rotate_left
                  · intro w'
                    go_simp
                    with_reducible rfl
                  rotate_left
                  · simp only [Act.put, List.setIfInBounds_toArray, List.set_cons_zero, List.set_cons_succ, i64_w, i32_w]
                    rfl
                  refine pure_ (i := 12) (N := some 11) (v := ?_) (a' := ?_) #[true, true, true, true, true, true, true, true, true, true, true, true, true] rfl rfl (any_of HT_.out (by kernel_rfl)) (fun _ _ _ h => h) (Or.inl ⟨by rfl, ?_⟩) ?_ ?_
                  rotate_left
                  · intro w'
                    go_simp
                    with_reducible rfl
                  rotate_left
                  · simp only [Act.put, List.setIfInBounds_toArray, List.set_cons_zero, List.set_cons_succ, i64_w, i32_w]
                    rfl
                  refine done_ (done_of HT_.out (by kernel_rfl)) ?_
                  obtain ⟨Ao33, co33, eo33⟩ := Kd.R_slice HO_6.out
                  subst eo33
                  try go_wp2_with (first | ((with_reducible refine gate_callee (f := 29) rfl ?_); refine goesL_ (some 67) rfl rfl Tryd.func29 (by kernel_rfl) rfl #[.slice Ao33 x6_1.length co33, .int .i64 (wrap64 ((wrap64 (((rd_T33 l0 x10_1).f0) - ((rd_T33 l0 (ji26)).f0))) - x9_1))] rfl (by (try simp only [List.map_toArray, List.map_cons, List.map_nil]); first | done | (simp only [hji26]; rfl) | rfl | (simp only [List.length_drop, List.length_take]; rfl)) ?_; (with_reducible refine (thermographref05_time.calls k1 (fun k_ => some k_ = (.slice Ao33 x6_1.length co33 : Value).ownBlock) (.slice Ao33 x6_1.length co33) x6_1 (wrap64 ((wrap64 (((rd_T33 l0 x10_1).f0) - ((rd_T33 l0 (ji26)).f0))) - x9_1)) t269 w _ ?side1 ?side2 A29.out).mono ?_); (case side1 => repeat (first | (with_reducible first | exact HB.out | apply below_alloc | apply pw_below_drewN | apply below_drew1 | refine below_set ?_ GE247.out | refine below_set ?_ GE248.out) | exact HB.out)); (case side2 => exact Kd.R_tight rfl HO_6.out); rintro e w34 ⟨v270, rfl, ho0, hb, hkp⟩; refine ⟨_, rfl, ?_⟩; have n0_ := Aside0.mk (Kd.R_mono (ok' := fun k_ => some k_ ≠ (v270 : Value).ownBlock) (Kd.R_keptB (HO_5.out) hkp (fun k_ hk_ hs_ => (hk_) hs_)) (fun k_ hk_ => fun e_ => Or.elim (ho0.1 k_ e_.symm) (fun hs_ => hk_.2.1 hs_) (fun hn_ => Nat.not_le.2 hk_.2.2 hn_))); have n1_ := Aside0.mk (blk_kept (by (with_reducible repeat (first | refine blk_drewN ?_ _ | refine blk_drew ?_ | refine blk_alloc ?_ _)); exact BK247.out) hkp (fun hs_ => (fun e_ => (Kd.R_ne HO_6.out BK247.out (by decide)) e_) hs_)); have n2_ := Aside0.mk (blk_kept (by (with_reducible repeat (first | refine blk_drewN ?_ _ | refine blk_drew ?_ | refine blk_alloc ?_ _)); exact BK248.out) hkp (fun hs_ => (fun e_ => (Kd.R_ne HO_6.out BK248.out (by decide)) e_) hs_)); have n3_ := Aside0.mk (Kd.R_mono (ok' := fun k_ => some k_ ≠ (v242 : Value).ownBlock) ho0 (fun k_ hk_ => Or.elim hk_ (fun hs_ => fun e_ => (((HO_5.out).1 k_ e_.symm)) hs_) (fun hn_ => (Kd.fresh' (Kd.R_lt (by (with_reducible repeat (first | apply Kd.R_alloc | apply Kd.R_drewN | apply Kd.R_drew)); exact HO_5.out)) k_ hn_)))); have n4_ := Aside0.mk (hb); clear HO_5; clear BK247; clear BK248; clear HB; clear HO_6; have HO_5 := n0_; have BK247 := n1_; have BK248 := n2_; have HO271 := n3_; have HB := n4_; clear n0_ n1_ n2_ n3_ n4_; (try clear hb); (try clear hkp); (try clear ho0)))
                  have n0_ := Aside0.mk (Kd.R_drew HO_5.out)
                  have n1_ := Aside0.mk (Kd.R_drew HO271.out)
                  have n2_ := Aside0.mk (blk_drew BK247.out)
                  have n3_ := Aside0.mk (blk_drew BK248.out)
                  have n4_ := Aside0.mk (below_drew1 HB.out)
                  clear HO_5
                  clear HO271
                  clear BK247
                  clear BK248
                  clear HB
                  have HO_5 := n0_
                  have HO271 := n1_
                  have BK247 := n2_
                  have BK248 := n3_
                  have HB := n4_
                  clear n0_ n1_ n2_ n3_ n4_
                  have p272 : 0 ≤ (x10_1 : Int) := of_decide_eq_true (by first | (with_reducible assumption) | assumption)
                  have q272 : x10_1 < (l0.length : Int) := of_decide_eq_true (by first | (with_reducible assumption) | assumption)
                  obtain ⟨ad272, e272, hx272_0, hx272_1, hx272_2⟩ := at_T33 HR0.out x10_1 p272 q272
                  have hw272_2 := hx272_2
                  have hw272_1 := hx272_1
                  have hw272_0 := hx272_0
                  obtain rfl : ad267 = ad272 := (by injection e272)
                  replace hx272_0 := (HB.out.cell (World.block_lt_of_cell? w _ hx272_0)).trans hx272_0
                  replace hx272_1 := (HB.out.cell (World.block_lt_of_cell? w _ hx272_1)).trans hx272_1
                  replace hx272_2 := (HB.out.cell (World.block_lt_of_cell? w _ hx272_2)).trans hx272_2
                  replace p272 := eq_true p272
                  replace q272 := eq_true q272
                  have p273 : 0 ≤ ((ji26) : Int) := of_decide_eq_true (by first | (with_reducible assumption) | assumption)
                  have q273 : (ji26) < (l0.length : Int) := of_decide_eq_true (by first | (with_reducible assumption) | assumption)
                  obtain ⟨ad273, e273, hx273_0, hx273_1, hx273_2⟩ := at_T33 HR0.out (ji26) p273 q273
                  have hw273_2 := hx273_2
                  have hw273_1 := hx273_1
                  have hw273_0 := hx273_0
                  obtain rfl : ad267 = ad273 := (by injection e273)
                  replace hx273_0 := (HB.out.cell (World.block_lt_of_cell? w _ hx273_0)).trans hx273_0
                  replace hx273_1 := (HB.out.cell (World.block_lt_of_cell? w _ hx273_1)).trans hx273_1
                  replace hx273_2 := (HB.out.cell (World.block_lt_of_cell? w _ hx273_2)).trans hx273_2
                  replace p273 := eq_true p273
                  replace q273 := eq_true q273
                  obtain ⟨Ao36, co36, eo36⟩ := Kd.R_slice HO271.out
                  (first | subst eo36 | (injection eo36 with f1_ f2_ f3_; have f4_ := f1_.symm; have f5_ := f3_.symm; clear f1_ f2_ f3_; subst f4_; subst f5_))
                  refine start_ (n := 20) (S := fun w' => w'.cell? ⟨gb247, 0, none⟩ = some (.bool x248000_1) ∧ w'.cell? ⟨gb247, 1, none⟩ = some (.int .i64 x248001_1) ∧ w'.cell? ⟨gb247, 2, none⟩ = some (.int .i64 x248002_1) ∧ w'.cell? (ad267.add ((x10_1).toNat * 3)) = some (.int .i64 ((rd_T33 l0 x10_1).f0)) ∧ w'.cell? ⟨(ad267.add ((x10_1).toNat * 3)).block, (ad267.add ((x10_1).toNat * 3)).off + 1, none⟩ = some (.int .u64 ((rd_T33 l0 x10_1).f1)) ∧ w'.cell? ⟨(ad267.add ((x10_1).toNat * 3)).block, (ad267.add ((x10_1).toNat * 3)).off + 2, none⟩ = some (.int .u64 ((rd_T33 l0 x10_1).f2)) ∧ w'.cell? (ad267.add (((ji26)).toNat * 3)) = some (.int .i64 ((rd_T33 l0 (ji26)).f0)) ∧ w'.cell? ⟨(ad267.add (((ji26)).toNat * 3)).block, (ad267.add (((ji26)).toNat * 3)).off + 1, none⟩ = some (.int .u64 ((rd_T33 l0 (ji26)).f1)) ∧ w'.cell? ⟨(ad267.add (((ji26)).toNat * 3)).block, (ad267.add (((ji26)).toNat * 3)).off + 2, none⟩ = some (.int .u64 ((rd_T33 l0 (ji26)).f2))) (ds := [19]) #[false, false, false, false, false, false, false, false, false, false, false, false, false, false, false, false, false, false, false, false] (by kernel_rfl) rfl rfl ⟨(blk_cell BK247.out 0).trans rfl, (blk_cell BK247.out 1).trans rfl, (blk_cell BK247.out 2).trans rfl, ((HB.out.cell (World.block_lt_of_cell? w _ hw272_0)).trans hw272_0), ((HB.out.cell (World.block_lt_of_cell? w _ hw272_1)).trans hw272_1), ((HB.out.cell (World.block_lt_of_cell? w _ hw272_2)).trans hw272_2), ((HB.out.cell (World.block_lt_of_cell? w _ hw273_0)).trans hw273_0), ((HB.out.cell (World.block_lt_of_cell? w _ hw273_1)).trans hw273_1), ((HB.out.cell (World.block_lt_of_cell? w _ hw273_2)).trans hw273_2)⟩ (fun hHeld => ?_); refine with_tabW thermographref05_Encode.tab19 thermographref05_Encode.bits19 (fun HT_ HW_ => ?_)
                  generalize w34.drew = w35 at HO_5 HO271 BK247 BK248 HB hx272_0 hx272_1 hx272_2 hx273_0 hx273_1 hx273_2 hHeld ⊢
                  refine pure_ (i := 0) (N := some 70) (v := ?_) (a' := ?_) #[true, false, false, false, false, false, false, false, false, false, false, false, false, false, false, false, false, false, false, false] rfl rfl (any_of HT_.out (by kernel_rfl)) (fun _ _ _ h => h) (Or.inl ⟨by rfl, ?_⟩) ?_ ?_
                  rotate_left
                  · intro w'
                    go_simp
                    with_reducible rfl
                  rotate_left
                  · simp only [Act.put, List.setIfInBounds_toArray, List.set_cons_zero, List.set_cons_succ, i64_w, i32_w]
                    rfl
                  refine pure_ (i := 2) (N := some 72) (v := ?_) (a' := ?_) #[true, false, true, false, false, false, false, false, false, false, false, false, false, false, false, false, false, false, false, false] rfl rfl (any_of HT_.out (by kernel_rfl)) (fun _ _ _ h => h) (Or.inl ⟨by rfl, ?_⟩) ?_ ?_
                  rotate_left
                  · intro w'
                    go_simp
                    with_reducible rfl
                  rotate_left
                  · simp only [Act.put, List.setIfInBounds_toArray, List.set_cons_zero, List.set_cons_succ, i64_w, i32_w]
                    rfl
                  refine pure_ (i := 3) (N := some 73) (v := ?_) (a' := ?_) #[true, false, true, true, false, false, false, false, false, false, false, false, false, false, false, false, false, false, false, false] rfl rfl (any_of HT_.out (by kernel_rfl)) (fun _ _ _ h => h) (Or.inl ⟨by rfl, ?_⟩) ?_ ?_
                  rotate_left
                  · intro w'
                    go_simp
                    with_reducible rfl
                  rotate_left
                  · simp only [Act.put, List.setIfInBounds_toArray, List.set_cons_zero, List.set_cons_succ, i64_w, i32_w]
                    rfl
                  refine pure_ (i := 4) (N := some 74) (v := ?_) (a' := ?_) #[true, false, true, true, true, false, false, false, false, false, false, false, false, false, false, false, false, false, false, false] rfl rfl (any_of HT_.out (by kernel_rfl)) (fun _ _ _ h => h) (Or.inl ⟨by rfl, ?_⟩) ?_ ?_
                  rotate_left
                  · intro w'
                    go_simp
                    with_reducible rfl
                  rotate_left
                  · simp only [Act.put, List.setIfInBounds_toArray, List.set_cons_zero, List.set_cons_succ, i64_w, i32_w]
                    rfl
                  refine pure_ (i := 5) (N := some 75) (v := ?_) (a' := ?_) #[true, false, true, true, true, true, false, false, false, false, false, false, false, false, false, false, false, false, false, false] rfl rfl (any_of HT_.out (by kernel_rfl)) (fun _ _ _ h => h) (Or.inl ⟨by rfl, ?_⟩) ?_ ?_
                  rotate_left
                  · intro w'
                    go_simp
                    with_reducible rfl
                  rotate_left
                  · simp only [Act.put, List.setIfInBounds_toArray, List.set_cons_zero, List.set_cons_succ, i64_w, i32_w]
                    rfl
                  refine pure_ (i := 7) (N := some 77) (v := ?_) (a' := ?_) #[true, false, true, true, true, true, false, true, false, false, false, false, false, false, false, false, false, false, false, false] rfl rfl (any_of HT_.out (by kernel_rfl)) (fun _ _ _ h => h) (Or.inl ⟨by rfl, ?_⟩) ?_ ?_
                  rotate_left
                  · intro w'
                    go_simp
                    with_reducible rfl
                  rotate_left
                  · simp only [Act.put, List.setIfInBounds_toArray, List.set_cons_zero, List.set_cons_succ, i64_w, i32_w]
                    rfl
                  refine pure_ (i := 8) (N := some 78) (v := ?_) (a' := ?_) #[true, false, true, true, true, true, false, true, true, false, false, false, false, false, false, false, false, false, false, false] rfl rfl (any_of HT_.out (by kernel_rfl)) (fun _ _ _ h => h) (Or.inl ⟨by rfl, ?_⟩) ?_ ?_
                  rotate_left
                  · intro w'
                    go_simp
                    with_reducible rfl
                  rotate_left
                  · simp only [Act.put, List.setIfInBounds_toArray, List.set_cons_zero, List.set_cons_succ, i64_w, i32_w]
                    rfl
                  refine pure_ (i := 9) (N := some 79) (v := ?_) (a' := ?_) #[true, false, true, true, true, true, false, true, true, true, false, false, false, false, false, false, false, false, false, false] rfl rfl (any_of HT_.out (by kernel_rfl)) (fun _ _ _ h => h) (Or.inl ⟨by rfl, ?_⟩) ?_ ?_
                  rotate_left
                  · intro w'
                    go_simp
                    with_reducible rfl
                  rotate_left
                  · simp only [Act.put, List.setIfInBounds_toArray, List.set_cons_zero, List.set_cons_succ, i64_w, i32_w]
                    rfl
                  refine pure_ (i := 10) (N := some 80) (v := ?_) (a' := ?_) #[true, false, true, true, true, true, false, true, true, true, true, false, false, false, false, false, false, false, false, false] rfl rfl (any_of HT_.out (by kernel_rfl)) (fun _ _ _ h => h) (Or.inl ⟨by rfl, ?_⟩) ?_ ?_
                  rotate_left
                  · intro w'
                    go_simp
                    with_reducible rfl
                  rotate_left
                  · simp only [Act.put, List.setIfInBounds_toArray, List.set_cons_zero, List.set_cons_succ, i64_w, i32_w]
                    rfl
                  refine pure_ (i := 11) (N := some 81) (v := ?_) (a' := ?_) #[true, false, true, true, true, true, false, true, true, true, true, true, false, false, false, false, false, false, false, false] rfl rfl (any_of HT_.out (by kernel_rfl)) (fun _ _ _ h => h) (Or.inl ⟨by rfl, ?_⟩) ?_ ?_
                  rotate_left
                  · intro w'
                    go_simp
                    with_reducible rfl
                  rotate_left
                  · simp only [Act.put, List.setIfInBounds_toArray, List.set_cons_zero, List.set_cons_succ, i64_w, i32_w]
                    rfl
                  refine take_ (i := 1) (N := some 71) (v := ?_) (a' := ?_) #[true, true, true, true, true, true, false, true, true, true, true, true, false, false, false, false, false, false, false, false] rfl rfl (take_ofW HT_.out HW_.out (by kernel_rfl)) (fun _ _ _ h => h) (Or.inl ⟨by rfl, ?_⟩) hHeld ?_ ?_
                  rotate_left
                  · rintro w' ⟨s0, s1, s2, s3, s4, s5, s6, s7, s8⟩
                    go_simp
                    with_reducible rfl
                  rotate_left
                  · simp only [Act.put, List.setIfInBounds_toArray, List.set_cons_zero, List.set_cons_succ, i64_w, i32_w]
                    rfl
                  refine take_ (i := 6) (N := some 76) (v := ?_) (a' := ?_) #[true, true, true, true, true, true, true, true, true, true, true, true, false, false, false, false, false, false, false, false] rfl rfl (take_ofW HT_.out HW_.out (by kernel_rfl)) (fun _ _ _ h => h) (Or.inl ⟨by rfl, ?_⟩) hHeld ?_ ?_
                  rotate_left
                  · rintro w' ⟨s0, s1, s2, s3, s4, s5, s6, s7, s8⟩
                    go_simp
                    with_reducible rfl
                  rotate_left
                  · simp only [Act.put, List.setIfInBounds_toArray, List.set_cons_zero, List.set_cons_succ, i64_w, i32_w]
                    rfl
                  refine take_ (i := 12) (N := some 82) (v := ?_) (a' := ?_) #[true, true, true, true, true, true, true, true, true, true, true, true, true, false, false, false, false, false, false, false] rfl rfl (take_ofW HT_.out HW_.out (by kernel_rfl)) (fun _ _ _ h => h) (Or.inl ⟨by rfl, ?_⟩) hHeld ?_ ?_
                  rotate_left
                  · rintro w' ⟨s0, s1, s2, s3, s4, s5, s6, s7, s8⟩
                    go_simp
                    with_reducible rfl
                  rotate_left
                  · simp only [Act.put, List.setIfInBounds_toArray, List.set_cons_zero, List.set_cons_succ, i64_w, i32_w]
                    rfl
                  refine pure_ (i := 13) (N := some 83) (v := ?_) (a' := ?_) #[true, true, true, true, true, true, true, true, true, true, true, true, true, true, false, false, false, false, false, false] rfl rfl (any_of HT_.out (by kernel_rfl)) (fun _ _ _ h => h) (Or.inl ⟨by rfl, ?_⟩) ?_ ?_
                  rotate_left
                  · intro w'
                    go_simp
                    with_reducible rfl
                  rotate_left
                  · simp only [Act.put, List.setIfInBounds_toArray, List.set_cons_zero, List.set_cons_succ, i64_w, i32_w]
                    rfl
                  refine one_ (i := 14) (N := some 84) #[true, true, true, true, true, true, true, true, true, true, true, true, true, true, true, false, false, false, false, false] rfl rfl (one_of HT_.out (by kernel_rfl)) (by decide) (fun K hK => ?_)
                  refine goes_ Tryd.func30 (by kernel_rfl) rfl #[.slice Ao36 t269.length co36, .agg #[.bool x248000_1, .int .i64 x248001_1, .int .i64 x248002_1], .int .u64 (Go.bits .xor .u64 ((rd_T33 l0 x10_1).f1) ((rd_T33 l0 (ji26)).f1))] (by rfl) rfl rfl (by (try simp only [List.map_toArray, List.map_cons, List.map_nil]); first | done | (simp only [hji26]; rfl) | rfl | (simp only [List.length_drop, List.length_take]; rfl)) ?_
                  with_reducible refine (thermographref05_value.calls k1 (fun k_ => some k_ = (.slice Ao36 t269.length co36 : Value).ownBlock) (.slice Ao36 t269.length co36) t269 x248000_1 x248001_1 x248002_1 (Go.bits .xor .u64 ((rd_T33 l0 x10_1).f1) ((rd_T33 l0 (ji26)).f1)) t274 t277 t278 t279 w _ ?side1 ?side2 A30.out).mono ?_
                  (case side1 => repeat (first | (with_reducible first | exact HB.out | apply below_alloc | apply pw_below_drewN | apply below_drew1 | refine below_set ?_ GE247.out | refine below_set ?_ GE248.out) | exact HB.out))
                  (case side2 => exact Kd.R_tight rfl HO271.out)
                  rintro e w37 ⟨v275, rfl, ho0, hb, hkp⟩
                  refine ⟨_, rfl, ?_⟩
                  have n0_ := Aside0.mk (Kd.R_mono (ok' := fun k_ => some k_ ≠ (v275 : Value).ownBlock) (Kd.R_keptB (HO_5.out) hkp (fun k_ hk_ hs_ => (hk_) hs_)) (fun k_ hk_ => fun e_ => Or.elim (ho0.1 k_ e_.symm) (fun hs_ => hk_.2.1 hs_) (fun hn_ => Nat.not_le.2 hk_.2.2 hn_)))
                  have n1_ := Aside0.mk (blk_kept (by (with_reducible repeat (first | refine blk_drewN ?_ _ | refine blk_drew ?_ | refine blk_alloc ?_ _)); exact BK247.out) hkp (fun hs_ => (fun e_ => (Kd.R_ne HO271.out BK247.out (by decide)) e_) hs_))
                  have n2_ := Aside0.mk (blk_kept (by (with_reducible repeat (first | refine blk_drewN ?_ _ | refine blk_drew ?_ | refine blk_alloc ?_ _)); exact BK248.out) hkp (fun hs_ => (fun e_ => (Kd.R_ne HO271.out BK248.out (by decide)) e_) hs_))
                  have n3_ := Aside0.mk (Kd.R_mono (ok' := fun k_ => some k_ ≠ (v242 : Value).ownBlock) ho0 (fun k_ hk_ => Or.elim hk_ (fun hs_ => fun e_ => (((HO_5.out).1 k_ e_.symm)) hs_) (fun hn_ => (Kd.fresh' (Kd.R_lt (by (with_reducible repeat (first | apply Kd.R_alloc | apply Kd.R_drewN | apply Kd.R_drew)); exact HO_5.out)) k_ hn_))))
                  have n4_ := Aside0.mk (hb)
                  clear HO_5
                  clear BK247
                  clear BK248
                  clear HB
                  clear HO271
                  have HO_5 := n0_
                  have BK247 := n1_
                  have BK248 := n2_
                  have HO276 := n3_
                  have HB := n4_
                  clear n0_ n1_ n2_ n3_ n4_
                  (try clear hb)
                  (try clear hkp)
                  (try clear ho0)
                  refine hK.out _ _ ⟨(blk_cell BK247.out 0).trans rfl, (blk_cell BK247.out 1).trans rfl, (blk_cell BK247.out 2).trans rfl, ((HB.out.cell (World.block_lt_of_cell? w _ hw272_0)).trans hw272_0), ((HB.out.cell (World.block_lt_of_cell? w _ hw272_1)).trans hw272_1), ((HB.out.cell (World.block_lt_of_cell? w _ hw272_2)).trans hw272_2), ((HB.out.cell (World.block_lt_of_cell? w _ hw273_0)).trans hw273_0), ((HB.out.cell (World.block_lt_of_cell? w _ hw273_1)).trans hw273_1), ((HB.out.cell (World.block_lt_of_cell? w _ hw273_2)).trans hw273_2)⟩ (fun hHeld => ?_)
                  clear hK K
                  refine norm_ (a' := ?_) ?_ ?_
                  rotate_left
                  · show Act.put _ (some 84) _ = _
                    simp only [Act.put, List.setIfInBounds_toArray, List.set_cons_zero, List.set_cons_succ, i64_w, i32_w]
                    rfl
                  refine pure_ (i := 15) (N := some 69) (v := ?_) (a' := ?_) #[true, true, true, true, true, true, true, true, true, true, true, true, true, true, true, true, false, false, false, false] rfl rfl (any_of HT_.out (by kernel_rfl)) (fun _ _ _ h => h) (Or.inl ⟨by rfl, ?_⟩) ?_ ?_
                  rotate_left
                  · intro w'
                    go_simp
                    with_reducible rfl
                  rotate_left
                  · simp only [Act.put, List.setIfInBounds_toArray, List.set_cons_zero, List.set_cons_succ, i64_w, i32_w]
                    rfl
                  refine pure_ (i := 16) (N := some 85) (v := ?_) (a' := ?_) #[true, true, true, true, true, true, true, true, true, true, true, true, true, true, true, true, true, false, false, false] rfl rfl (any_of HT_.out (by kernel_rfl)) (fun _ _ _ h => h) (Or.inl ⟨by rfl, ?_⟩) ?_ ?_
                  rotate_left
                  · intro w'
                    go_simp
                    with_reducible rfl
                  rotate_left
                  · simp only [Act.put, List.setIfInBounds_toArray, List.set_cons_zero, List.set_cons_succ, i64_w, i32_w]
                    rfl
                  refine pure_ (i := 17) (N := some 86) (v := ?_) (a' := ?_) #[true, true, true, true, true, true, true, true, true, true, true, true, true, true, true, true, true, true, false, false] rfl rfl (any_of HT_.out (by kernel_rfl)) (fun _ _ _ h => h) (Or.inl ⟨by rfl, ?_⟩) ?_ ?_
                  rotate_left
                  · intro w'
                    go_simp
                    with_reducible rfl
                  rotate_left
                  · simp only [Act.put, List.setIfInBounds_toArray, List.set_cons_zero, List.set_cons_succ, i64_w, i32_w]
                    rfl
                  refine pure_ (i := 18) (N := some 6) (v := ?_) (a' := ?_) #[true, true, true, true, true, true, true, true, true, true, true, true, true, true, true, true, true, true, true, false] rfl rfl (any_of HT_.out (by kernel_rfl)) (fun _ _ _ h => h) (Or.inl ⟨by rfl, ?_⟩) ?_ ?_
                  rotate_left
                  · intro w'
                    go_simp
                    with_reducible rfl
                  rotate_left
                  · simp only [Act.put, List.setIfInBounds_toArray, List.set_cons_zero, List.set_cons_succ, i64_w, i32_w]
                    rfl
                  refine last_ (i := 19) (N := none) #[true, true, true, true, true, true, true, true, true, true, true, true, true, true, true, true, true, true, true, true] rfl rfl (one_of HT_.out (by kernel_rfl)) (by decide) (fun K hK => ?_)
                  have hs38 : w37.cell? ⟨gb247, 0, none⟩ = some (.bool x248000_1) := (blk_cell BK247.out 0).trans rfl
                  have hfs38 := blk_frozen BK247.out 0
                  have hns38_1 := NB248_247.out
                  have hms38_1 := NB247_248.out
                  have hs39 : w37.cell? ⟨gb247, 1, none⟩ = some (.int .i64 x248001_1) := (blk_cell BK247.out 1).trans rfl
                  have hfs39 := blk_frozen BK247.out 1
                  have hns39_1 := NB248_247.out
                  have hms39_1 := NB247_248.out
                  have hs40 : w37.cell? ⟨gb247, 2, none⟩ = some (.int .i64 x248002_1) := (blk_cell BK247.out 2).trans rfl
                  have hfs40 := blk_frozen BK247.out 2
                  have hns40_1 := NB248_247.out
                  have hms40_1 := NB247_248.out
                  refine skip_ (w1 := ?_) (by rfl) rfl ?_ ?_
                  rotate_left
                  · go_simp
                    rfl
                  refine hK.out _ _ ?_
                  clear hK K
                  refine done_ (done_of HT_.out (by kernel_rfl)) ?_
                  try go_wp2
                  have n0_ : Aside0 (Kd.R (Kd.int .u8) 5 (((w37.setCell ⟨gb247, 0, none⟩ (.bool t277)).setCell ⟨gb247, 1, none⟩ (.int .i64 t278)).setCell ⟨gb247, 2, none⟩ (.int .i64 t279)) w.heap.size (fun k_ => some k_ ≠ (v275 : Value).ownBlock) v242 t241) := ⟨by (with_reducible repeat (first | apply Kd.R_alloc | apply Kd.R_drewN | apply Kd.R_drew)); exact Kd.R_mono (Kd.R_far (p := ⟨gb247, 2, none⟩) (Kd.R_far (p := ⟨gb247, 1, none⟩) (Kd.R_far (p := ⟨gb247, 0, none⟩) (Kd.R_types HO_5.out BK247.out (by decide)) (fun _ hk => hk.2) (.bool t277)) (fun _ hk => hk.2) (.int .i64 t278)) (fun _ hk => hk.2) (.int .i64 t279)) (fun _ hk => hk.1)⟩
                  have n1_ : Aside0 (Kd.R (Kd.int .u8) 5 (((w37.setCell ⟨gb247, 0, none⟩ (.bool t277)).setCell ⟨gb247, 1, none⟩ (.int .i64 t278)).setCell ⟨gb247, 2, none⟩ (.int .i64 t279)) w.heap.size (fun k_ => some k_ ≠ (v242 : Value).ownBlock) v275 t274) := ⟨by (with_reducible repeat (first | apply Kd.R_alloc | apply Kd.R_drewN | apply Kd.R_drew)); exact Kd.R_mono (Kd.R_far (p := ⟨gb247, 2, none⟩) (Kd.R_far (p := ⟨gb247, 1, none⟩) (Kd.R_far (p := ⟨gb247, 0, none⟩) (Kd.R_types HO276.out BK247.out (by decide)) (fun _ hk => hk.2) (.bool t277)) (fun _ hk => hk.2) (.int .i64 t278)) (fun _ hk => hk.2) (.int .i64 t279)) (fun _ hk => hk.1)⟩
                  have n2_ : Aside0 ((((w37.setCell ⟨gb247, 0, none⟩ (.bool t277)).setCell ⟨gb247, 1, none⟩ (.int .i64 t278)).setCell ⟨gb247, 2, none⟩ (.int .i64 t279)).heap[gb247]? = some (.cells #[.bool t277, .int .i64 t278, .int .i64 t279] 55 (0, 0))) := ⟨by (with_reducible repeat (first | refine blk_drewN ?_ _ | refine blk_drew ?_ | refine blk_alloc ?_ _)); refine blk_put (cs := #[.bool t277, .int .i64 t278, .int .i64 x248002_1]) ?_ 2 _ rfl; (with_reducible repeat (first | refine blk_drewN ?_ _ | refine blk_drew ?_ | refine blk_alloc ?_ _)); refine blk_put (cs := #[.bool t277, .int .i64 x248001_1, .int .i64 x248002_1]) ?_ 1 _ rfl; (with_reducible repeat (first | refine blk_drewN ?_ _ | refine blk_drew ?_ | refine blk_alloc ?_ _)); refine blk_put (cs := #[.bool x248000_1, .int .i64 x248001_1, .int .i64 x248002_1]) ?_ 0 _ rfl; (with_reducible repeat (first | refine blk_drewN ?_ _ | refine blk_drew ?_ | refine blk_alloc ?_ _)); exact BK247.out⟩
                  have n3_ : Aside0 ((((w37.setCell ⟨gb247, 0, none⟩ (.bool t277)).setCell ⟨gb247, 1, none⟩ (.int .i64 t278)).setCell ⟨gb247, 2, none⟩ (.int .i64 t279)).heap[gb248]? = some (.cells #[.bool x249000_1, .int .i64 x249001_1, .int .i64 x249002_1] 55 (0, 0))) := ⟨by (with_reducible repeat (first | refine blk_drewN ?_ _ | refine blk_drew ?_ | refine blk_alloc ?_ _)); refine blk_far ?_ NB248_247.out _; (with_reducible repeat (first | refine blk_drewN ?_ _ | refine blk_drew ?_ | refine blk_alloc ?_ _)); refine blk_far ?_ NB248_247.out _; (with_reducible repeat (first | refine blk_drewN ?_ _ | refine blk_drew ?_ | refine blk_alloc ?_ _)); refine blk_far ?_ NB248_247.out _; (with_reducible repeat (first | refine blk_drewN ?_ _ | refine blk_drew ?_ | refine blk_alloc ?_ _)); exact BK248.out⟩
                  have n4_ : Aside0 (Below w.heap.size w (((w37.setCell ⟨gb247, 0, none⟩ (.bool t277)).setCell ⟨gb247, 1, none⟩ (.int .i64 t278)).setCell ⟨gb247, 2, none⟩ (.int .i64 t279))) := ⟨by repeat (first | (with_reducible first | exact HB.out | apply below_alloc | apply pw_below_drewN | apply below_drew1 | refine below_set ?_ GE247.out | refine below_set ?_ GE248.out) | exact HB.out)⟩
                  (try clear HO_5)
                  (try clear HO276)
                  (try clear BK247)
                  (try clear BK248)
                  (try clear HB)
                  generalize (((w37.setCell ⟨gb247, 0, none⟩ (.bool t277)).setCell ⟨gb247, 1, none⟩ (.int .i64 t278)).setCell ⟨gb247, 2, none⟩ (.int .i64 t279)) = w41 at n0_ n1_ n2_ n3_ n4_ ⊢
                  have HO_5 := n0_
                  have HO276 := n1_
                  have BK247 := n2_
                  have BK248 := n3_
                  have HB := n4_
                  clear n0_ n1_ n2_ n3_ n4_
                  have n0_ := Aside0.mk (Kd.R_drew HO_5.out)
                  have n1_ := Aside0.mk (Kd.R_drew HO276.out)
                  have n2_ := Aside0.mk (blk_drew BK247.out)
                  have n3_ := Aside0.mk (blk_drew BK248.out)
                  have n4_ := Aside0.mk (below_drew1 HB.out)
                  clear HO_5
                  clear HO276
                  clear BK247
                  clear BK248
                  clear HB
                  have HO_5 := n0_
                  have HO276 := n1_
                  have BK247 := n2_
                  have BK248 := n3_
                  have HB := n4_
                  clear n0_ n1_ n2_ n3_ n4_
                  have p280 : 0 ≤ (x10_1 : Int) := of_decide_eq_true (by first | (with_reducible assumption) | assumption)
                  have q280 : x10_1 < (l0.length : Int) := of_decide_eq_true (by first | (with_reducible assumption) | assumption)
                  obtain ⟨ad280, e280, hx280_0, hx280_1, hx280_2⟩ := at_T33 HR0.out x10_1 p280 q280
                  have hw280_2 := hx280_2
                  have hw280_1 := hx280_1
                  have hw280_0 := hx280_0
                  obtain rfl : ad267 = ad280 := (by injection e280)
                  replace hx280_0 := (HB.out.cell (World.block_lt_of_cell? w _ hx280_0)).trans hx280_0
                  replace hx280_1 := (HB.out.cell (World.block_lt_of_cell? w _ hx280_1)).trans hx280_1
                  replace hx280_2 := (HB.out.cell (World.block_lt_of_cell? w _ hx280_2)).trans hx280_2
                  replace p280 := eq_true p280
                  replace q280 := eq_true q280
                  have p281 : 0 ≤ ((ji26) : Int) := of_decide_eq_true (by first | (with_reducible assumption) | assumption)
                  have q281 : (ji26) < (l0.length : Int) := of_decide_eq_true (by first | (with_reducible assumption) | assumption)
                  obtain ⟨ad281, e281, hx281_0, hx281_1, hx281_2⟩ := at_T33 HR0.out (ji26) p281 q281
                  have hw281_2 := hx281_2
                  have hw281_1 := hx281_1
                  have hw281_0 := hx281_0
                  obtain rfl : ad267 = ad281 := (by injection e281)
                  replace hx281_0 := (HB.out.cell (World.block_lt_of_cell? w _ hx281_0)).trans hx281_0
                  replace hx281_1 := (HB.out.cell (World.block_lt_of_cell? w _ hx281_1)).trans hx281_1
                  replace hx281_2 := (HB.out.cell (World.block_lt_of_cell? w _ hx281_2)).trans hx281_2
                  replace p281 := eq_true p281
                  replace q281 := eq_true q281
                  obtain ⟨Ao43, co43, eo43⟩ := Kd.R_slice HO276.out
                  (first | subst eo43 | (injection eo43 with f1_ f2_ f3_; have f4_ := f1_.symm; have f5_ := f3_.symm; clear f1_ f2_ f3_; subst f4_; subst f5_))
                  refine start_ (n := 20) (S := fun w' => w'.cell? ⟨gb248, 0, none⟩ = some (.bool x249000_1) ∧ w'.cell? ⟨gb248, 1, none⟩ = some (.int .i64 x249001_1) ∧ w'.cell? ⟨gb248, 2, none⟩ = some (.int .i64 x249002_1) ∧ w'.cell? (ad267.add ((x10_1).toNat * 3)) = some (.int .i64 ((rd_T33 l0 x10_1).f0)) ∧ w'.cell? ⟨(ad267.add ((x10_1).toNat * 3)).block, (ad267.add ((x10_1).toNat * 3)).off + 1, none⟩ = some (.int .u64 ((rd_T33 l0 x10_1).f1)) ∧ w'.cell? ⟨(ad267.add ((x10_1).toNat * 3)).block, (ad267.add ((x10_1).toNat * 3)).off + 2, none⟩ = some (.int .u64 ((rd_T33 l0 x10_1).f2)) ∧ w'.cell? (ad267.add (((ji26)).toNat * 3)) = some (.int .i64 ((rd_T33 l0 (ji26)).f0)) ∧ w'.cell? ⟨(ad267.add (((ji26)).toNat * 3)).block, (ad267.add (((ji26)).toNat * 3)).off + 1, none⟩ = some (.int .u64 ((rd_T33 l0 (ji26)).f1)) ∧ w'.cell? ⟨(ad267.add (((ji26)).toNat * 3)).block, (ad267.add (((ji26)).toNat * 3)).off + 2, none⟩ = some (.int .u64 ((rd_T33 l0 (ji26)).f2))) (ds := [19]) #[false, false, false, false, false, false, false, false, false, false, false, false, false, false, false, false, false, false, false, false] (by kernel_rfl) rfl rfl ⟨(blk_cell BK248.out 0).trans rfl, (blk_cell BK248.out 1).trans rfl, (blk_cell BK248.out 2).trans rfl, ((HB.out.cell (World.block_lt_of_cell? w _ hw280_0)).trans hw280_0), ((HB.out.cell (World.block_lt_of_cell? w _ hw280_1)).trans hw280_1), ((HB.out.cell (World.block_lt_of_cell? w _ hw280_2)).trans hw280_2), ((HB.out.cell (World.block_lt_of_cell? w _ hw281_0)).trans hw281_0), ((HB.out.cell (World.block_lt_of_cell? w _ hw281_1)).trans hw281_1), ((HB.out.cell (World.block_lt_of_cell? w _ hw281_2)).trans hw281_2)⟩ (fun hHeld => ?_); refine with_tabW thermographref05_Encode.tab20 thermographref05_Encode.bits20 (fun HT_ HW_ => ?_)
                  generalize w41.drew = w42 at HO_5 HO276 BK247 BK248 HB hx280_0 hx280_1 hx280_2 hx281_0 hx281_1 hx281_2 hHeld ⊢
                  refine pure_ (i := 0) (N := some 88) (v := ?_) (a' := ?_) #[true, false, false, false, false, false, false, false, false, false, false, false, false, false, false, false, false, false, false, false] rfl rfl (any_of HT_.out (by kernel_rfl)) (fun _ _ _ h => h) (Or.inl ⟨by rfl, ?_⟩) ?_ ?_
                  rotate_left
                  · intro w'
                    go_simp
                    with_reducible rfl
                  rotate_left
                  · simp only [Act.put, List.setIfInBounds_toArray, List.set_cons_zero, List.set_cons_succ, i64_w, i32_w]
                    rfl
                  refine pure_ (i := 2) (N := some 90) (v := ?_) (a' := ?_) #[true, false, true, false, false, false, false, false, false, false, false, false, false, false, false, false, false, false, false, false] rfl rfl (any_of HT_.out (by kernel_rfl)) (fun _ _ _ h => h) (Or.inl ⟨by rfl, ?_⟩) ?_ ?_
                  rotate_left
                  · intro w'
                    go_simp
                    with_reducible rfl
                  rotate_left
                  · simp only [Act.put, List.setIfInBounds_toArray, List.set_cons_zero, List.set_cons_succ, i64_w, i32_w]
                    rfl
                  refine pure_ (i := 3) (N := some 91) (v := ?_) (a' := ?_) #[true, false, true, true, false, false, false, false, false, false, false, false, false, false, false, false, false, false, false, false] rfl rfl (any_of HT_.out (by kernel_rfl)) (fun _ _ _ h => h) (Or.inl ⟨by rfl, ?_⟩) ?_ ?_
                  rotate_left
                  · intro w'
                    go_simp
                    with_reducible rfl
                  rotate_left
                  · simp only [Act.put, List.setIfInBounds_toArray, List.set_cons_zero, List.set_cons_succ, i64_w, i32_w]
                    rfl
                  refine pure_ (i := 4) (N := some 92) (v := ?_) (a' := ?_) #[true, false, true, true, true, false, false, false, false, false, false, false, false, false, false, false, false, false, false, false] rfl rfl (any_of HT_.out (by kernel_rfl)) (fun _ _ _ h => h) (Or.inl ⟨by rfl, ?_⟩) ?_ ?_
                  rotate_left
                  · intro w'
                    go_simp
                    with_reducible rfl
                  rotate_left
                  · simp only [Act.put, List.setIfInBounds_toArray, List.set_cons_zero, List.set_cons_succ, i64_w, i32_w]
                    rfl
                  refine pure_ (i := 5) (N := some 93) (v := ?_) (a' := ?_) #[true, false, true, true, true, true, false, false, false, false, false, false, false, false, false, false, false, false, false, false] rfl rfl (any_of HT_.out (by kernel_rfl)) (fun _ _ _ h => h) (Or.inl ⟨by rfl, ?_⟩) ?_ ?_
                  rotate_left
                  · intro w'
                    go_simp
                    with_reducible rfl
                  rotate_left
                  · simp only [Act.put, List.setIfInBounds_toArray, List.set_cons_zero, List.set_cons_succ, i64_w, i32_w]
                    rfl
                  refine pure_ (i := 7) (N := some 95) (v := ?_) (a' := ?_) #[true, false, true, true, true, true, false, true, false, false, false, false, false, false, false, false, false, false, false, false] rfl rfl (any_of HT_.out (by kernel_rfl)) (fun _ _ _ h => h) (Or.inl ⟨by rfl, ?_⟩) ?_ ?_
                  rotate_left
                  · intro w'
                    go_simp
                    with_reducible rfl
                  rotate_left
                  · simp only [Act.put, List.setIfInBounds_toArray, List.set_cons_zero, List.set_cons_succ, i64_w, i32_w]
                    rfl
                  refine pure_ (i := 8) (N := some 96) (v := ?_) (a' := ?_) #[true, false, true, true, true, true, false, true, true, false, false, false, false, false, false, false, false, false, false, false] rfl rfl (any_of HT_.out (by kernel_rfl)) (fun _ _ _ h => h) (Or.inl ⟨by rfl, ?_⟩) ?_ ?_
                  rotate_left
                  · intro w'
                    go_simp
                    with_reducible rfl
                  rotate_left
                  · simp only [Act.put, List.setIfInBounds_toArray, List.set_cons_zero, List.set_cons_succ, i64_w, i32_w]
                    rfl
                  refine pure_ (i := 9) (N := some 97) (v := ?_) (a' := ?_) #[true, false, true, true, true, true, false, true, true, true, false, false, false, false, false, false, false, false, false, false] rfl rfl (any_of HT_.out (by kernel_rfl)) (fun _ _ _ h => h) (Or.inl ⟨by rfl, ?_⟩) ?_ ?_
                  rotate_left
                  · intro w'
                    go_simp
                    with_reducible rfl
                  rotate_left
                  · simp only [Act.put, List.setIfInBounds_toArray, List.set_cons_zero, List.set_cons_succ, i64_w, i32_w]
                    rfl
                  refine pure_ (i := 10) (N := some 98) (v := ?_) (a' := ?_) #[true, false, true, true, true, true, false, true, true, true, true, false, false, false, false, false, false, false, false, false] rfl rfl (any_of HT_.out (by kernel_rfl)) (fun _ _ _ h => h) (Or.inl ⟨by rfl, ?_⟩) ?_ ?_
                  rotate_left
                  · intro w'
                    go_simp
                    with_reducible rfl
                  rotate_left
                  · simp only [Act.put, List.setIfInBounds_toArray, List.set_cons_zero, List.set_cons_succ, i64_w, i32_w]
                    rfl
                  refine pure_ (i := 11) (N := some 99) (v := ?_) (a' := ?_) #[true, false, true, true, true, true, false, true, true, true, true, true, false, false, false, false, false, false, false, false] rfl rfl (any_of HT_.out (by kernel_rfl)) (fun _ _ _ h => h) (Or.inl ⟨by rfl, ?_⟩) ?_ ?_
                  rotate_left
                  · intro w'
                    go_simp
                    with_reducible rfl
                  rotate_left
                  · simp only [Act.put, List.setIfInBounds_toArray, List.set_cons_zero, List.set_cons_succ, i64_w, i32_w]
                    rfl
                  refine take_ (i := 1) (N := some 89) (v := ?_) (a' := ?_) #[true, true, true, true, true, true, false, true, true, true, true, true, false, false, false, false, false, false, false, false] rfl rfl (take_ofW HT_.out HW_.out (by kernel_rfl)) (fun _ _ _ h => h) (Or.inl ⟨by rfl, ?_⟩) hHeld ?_ ?_
                  rotate_left
                  · rintro w' ⟨s0, s1, s2, s3, s4, s5, s6, s7, s8⟩
                    go_simp
                    with_reducible rfl
                  rotate_left
                  · simp only [Act.put, List.setIfInBounds_toArray, List.set_cons_zero, List.set_cons_succ, i64_w, i32_w]
                    rfl
                  refine take_ (i := 6) (N := some 94) (v := ?_) (a' := ?_) #[true, true, true, true, true, true, true, true, true, true, true, true, false, false, false, false, false, false, false, false] rfl rfl (take_ofW HT_.out HW_.out (by kernel_rfl)) (fun _ _ _ h => h) (Or.inl ⟨by rfl, ?_⟩) hHeld ?_ ?_
                  rotate_left
                  · rintro w' ⟨s0, s1, s2, s3, s4, s5, s6, s7, s8⟩
                    go_simp
                    with_reducible rfl
                  rotate_left
                  · simp only [Act.put, List.setIfInBounds_toArray, List.set_cons_zero, List.set_cons_succ, i64_w, i32_w]
                    rfl
                  refine take_ (i := 12) (N := some 100) (v := ?_) (a' := ?_) #[true, true, true, true, true, true, true, true, true, true, true, true, true, false, false, false, false, false, false, false] rfl rfl (take_ofW HT_.out HW_.out (by kernel_rfl)) (fun _ _ _ h => h) (Or.inl ⟨by rfl, ?_⟩) hHeld ?_ ?_
                  rotate_left
                  · rintro w' ⟨s0, s1, s2, s3, s4, s5, s6, s7, s8⟩
                    go_simp
                    with_reducible rfl
                  rotate_left
                  · simp only [Act.put, List.setIfInBounds_toArray, List.set_cons_zero, List.set_cons_succ, i64_w, i32_w]
                    rfl
                  refine pure_ (i := 13) (N := some 101) (v := ?_) (a' := ?_) #[true, true, true, true, true, true, true, true, true, true, true, true, true, true, false, false, false, false, false, false] rfl rfl (any_of HT_.out (by kernel_rfl)) (fun _ _ _ h => h) (Or.inl ⟨by rfl, ?_⟩) ?_ ?_
                  rotate_left
                  · intro w'
                    go_simp
                    with_reducible rfl
                  rotate_left
                  · simp only [Act.put, List.setIfInBounds_toArray, List.set_cons_zero, List.set_cons_succ, i64_w, i32_w]
                    rfl
                  refine one_ (i := 14) (N := some 102) #[true, true, true, true, true, true, true, true, true, true, true, true, true, true, true, false, false, false, false, false] rfl rfl (one_of HT_.out (by kernel_rfl)) (by decide) (fun K hK => ?_)
                  refine goes_ Tryd.func30 (by kernel_rfl) rfl #[.slice Ao43 t274.length co43, .agg #[.bool x249000_1, .int .i64 x249001_1, .int .i64 x249002_1], .int .u64 (Go.bits .xor .u64 ((rd_T33 l0 x10_1).f2) ((rd_T33 l0 (ji26)).f2))] (by rfl) rfl rfl (by (try simp only [List.map_toArray, List.map_cons, List.map_nil]); first | done | (simp only [hji26]; rfl) | rfl | (simp only [List.length_drop, List.length_take]; rfl)) ?_
                  with_reducible refine (thermographref05_value.calls k1 (fun k_ => some k_ = (.slice Ao43 t274.length co43 : Value).ownBlock) (.slice Ao43 t274.length co43) t274 x249000_1 x249001_1 x249002_1 (Go.bits .xor .u64 ((rd_T33 l0 x10_1).f2) ((rd_T33 l0 (ji26)).f2)) t282 t285 t286 t287 w _ ?side1 ?side2 A31.out).mono ?_
                  (case side1 => repeat (first | (with_reducible first | exact HB.out | apply below_alloc | apply pw_below_drewN | apply below_drew1 | refine below_set ?_ GE247.out | refine below_set ?_ GE248.out) | exact HB.out))
                  (case side2 => exact Kd.R_tight rfl HO276.out)
                  rintro e w44 ⟨v283, rfl, ho0, hb, hkp⟩
                  refine ⟨_, rfl, ?_⟩
                  have n0_ := Aside0.mk (Kd.R_mono (ok' := fun k_ => some k_ ≠ (v283 : Value).ownBlock) (Kd.R_keptB (HO_5.out) hkp (fun k_ hk_ hs_ => (hk_) hs_)) (fun k_ hk_ => fun e_ => Or.elim (ho0.1 k_ e_.symm) (fun hs_ => hk_.2.1 hs_) (fun hn_ => Nat.not_le.2 hk_.2.2 hn_)))
                  have n1_ := Aside0.mk (blk_kept (by (with_reducible repeat (first | refine blk_drewN ?_ _ | refine blk_drew ?_ | refine blk_alloc ?_ _)); exact BK247.out) hkp (fun hs_ => (fun e_ => (Kd.R_ne HO276.out BK247.out (by decide)) e_) hs_))
                  have n2_ := Aside0.mk (blk_kept (by (with_reducible repeat (first | refine blk_drewN ?_ _ | refine blk_drew ?_ | refine blk_alloc ?_ _)); exact BK248.out) hkp (fun hs_ => (fun e_ => (Kd.R_ne HO276.out BK248.out (by decide)) e_) hs_))
                  have n3_ := Aside0.mk (Kd.R_mono (ok' := fun k_ => some k_ ≠ (v242 : Value).ownBlock) ho0 (fun k_ hk_ => Or.elim hk_ (fun hs_ => fun e_ => (((HO_5.out).1 k_ e_.symm)) hs_) (fun hn_ => (Kd.fresh' (Kd.R_lt (by (with_reducible repeat (first | apply Kd.R_alloc | apply Kd.R_drewN | apply Kd.R_drew)); exact HO_5.out)) k_ hn_))))
                  have n4_ := Aside0.mk (hb)
                  clear HO_5
                  clear BK247
                  clear BK248
                  clear HB
                  clear HO276
                  have HO_5 := n0_
                  have BK247 := n1_
                  have BK248 := n2_
                  have HO284 := n3_
                  have HB := n4_
                  clear n0_ n1_ n2_ n3_ n4_
                  (try clear hb)
                  (try clear hkp)
                  (try clear ho0)
                  refine hK.out _ _ ⟨(blk_cell BK248.out 0).trans rfl, (blk_cell BK248.out 1).trans rfl, (blk_cell BK248.out 2).trans rfl, ((HB.out.cell (World.block_lt_of_cell? w _ hw280_0)).trans hw280_0), ((HB.out.cell (World.block_lt_of_cell? w _ hw280_1)).trans hw280_1), ((HB.out.cell (World.block_lt_of_cell? w _ hw280_2)).trans hw280_2), ((HB.out.cell (World.block_lt_of_cell? w _ hw281_0)).trans hw281_0), ((HB.out.cell (World.block_lt_of_cell? w _ hw281_1)).trans hw281_1), ((HB.out.cell (World.block_lt_of_cell? w _ hw281_2)).trans hw281_2)⟩ (fun hHeld => ?_)
                  clear hK K
                  refine norm_ (a' := ?_) ?_ ?_
                  rotate_left
                  · show Act.put _ (some 102) _ = _
                    simp only [Act.put, List.setIfInBounds_toArray, List.set_cons_zero, List.set_cons_succ, i64_w, i32_w]
                    rfl
                  refine pure_ (i := 15) (N := some 87) (v := ?_) (a' := ?_) #[true, true, true, true, true, true, true, true, true, true, true, true, true, true, true, true, false, false, false, false] rfl rfl (any_of HT_.out (by kernel_rfl)) (fun _ _ _ h => h) (Or.inl ⟨by rfl, ?_⟩) ?_ ?_
                  rotate_left
                  · intro w'
                    go_simp
                    with_reducible rfl
                  rotate_left
                  · simp only [Act.put, List.setIfInBounds_toArray, List.set_cons_zero, List.set_cons_succ, i64_w, i32_w]
                    rfl
                  refine pure_ (i := 16) (N := some 103) (v := ?_) (a' := ?_) #[true, true, true, true, true, true, true, true, true, true, true, true, true, true, true, true, true, false, false, false] rfl rfl (any_of HT_.out (by kernel_rfl)) (fun _ _ _ h => h) (Or.inl ⟨by rfl, ?_⟩) ?_ ?_
                  rotate_left
                  · intro w'
                    go_simp
                    with_reducible rfl
                  rotate_left
                  · simp only [Act.put, List.setIfInBounds_toArray, List.set_cons_zero, List.set_cons_succ, i64_w, i32_w]
                    rfl
                  refine pure_ (i := 17) (N := some 104) (v := ?_) (a' := ?_) #[true, true, true, true, true, true, true, true, true, true, true, true, true, true, true, true, true, true, false, false] rfl rfl (any_of HT_.out (by kernel_rfl)) (fun _ _ _ h => h) (Or.inl ⟨by rfl, ?_⟩) ?_ ?_
                  rotate_left
                  · intro w'
                    go_simp
                    with_reducible rfl
                  rotate_left
                  · simp only [Act.put, List.setIfInBounds_toArray, List.set_cons_zero, List.set_cons_succ, i64_w, i32_w]
                    rfl
                  refine pure_ (i := 18) (N := some 6) (v := ?_) (a' := ?_) #[true, true, true, true, true, true, true, true, true, true, true, true, true, true, true, true, true, true, true, false] rfl rfl (any_of HT_.out (by kernel_rfl)) (fun _ _ _ h => h) (Or.inl ⟨by rfl, ?_⟩) ?_ ?_
                  rotate_left
                  · intro w'
                    go_simp
                    with_reducible rfl
                  rotate_left
                  · simp only [Act.put, List.setIfInBounds_toArray, List.set_cons_zero, List.set_cons_succ, i64_w, i32_w]
                    rfl
                  refine last_ (i := 19) (N := none) #[true, true, true, true, true, true, true, true, true, true, true, true, true, true, true, true, true, true, true, true] rfl rfl (one_of HT_.out (by kernel_rfl)) (by decide) (fun K hK => ?_)
                  have hs45 : w44.cell? ⟨gb248, 0, none⟩ = some (.bool x249000_1) := (blk_cell BK248.out 0).trans rfl
                  have hfs45 := blk_frozen BK248.out 0
                  have hns45_0 := NB247_248.out
                  have hms45_0 := NB248_247.out
                  have hs46 : w44.cell? ⟨gb248, 1, none⟩ = some (.int .i64 x249001_1) := (blk_cell BK248.out 1).trans rfl
                  have hfs46 := blk_frozen BK248.out 1
                  have hns46_0 := NB247_248.out
                  have hms46_0 := NB248_247.out
                  have hs47 : w44.cell? ⟨gb248, 2, none⟩ = some (.int .i64 x249002_1) := (blk_cell BK248.out 2).trans rfl
                  have hfs47 := blk_frozen BK248.out 2
                  have hns47_0 := NB247_248.out
                  have hms47_0 := NB248_247.out
                  refine skip_ (w1 := ?_) (by rfl) rfl ?_ ?_
                  rotate_left
                  · go_simp
                    rfl
                  refine hK.out _ _ ?_
                  clear hK K
                  refine done_ (done_of HT_.out (by kernel_rfl)) ?_
                  try go_wp2
                  go_roundg k1
                  case measure => have := HK1.out; omega
                  case rel => exact ⟨(t282), (wrap64 (((rd_T33 l0 x10_1).f0) - ((rd_T33 l0 (ji26)).f0))), (wrap64 (x10_1 + 1)), (t277), (t278), (t279), (t285), (t286), (t287), (by first | rfl | (simp; done) | (simp only [← hji26] <;> (first | rfl | simp)) | (simp [*]; done)), (by first | rfl | (simp; done) | (simp [*]; done)), H', ⟨by have := HK1.out; omega⟩, ⟨by (with_reducible repeat (first | apply Kd.R_alloc | apply Kd.R_drewN | apply Kd.R_drew)); exact Kd.R_mono (Kd.R_far (p := ⟨gb248, 2, none⟩) (Kd.R_far (p := ⟨gb248, 1, none⟩) (Kd.R_far (p := ⟨gb248, 0, none⟩) (Kd.R_types HO_5.out BK248.out (by decide)) (fun _ hk => hk.2) (.bool t285)) (fun _ hk => hk.2) (.int .i64 t286)) (fun _ hk => hk.2) (.int .i64 t287)) (fun _ hk => hk.1)⟩, ⟨by (with_reducible repeat (first | apply Kd.R_alloc | apply Kd.R_drewN | apply Kd.R_drew)); exact Kd.R_mono (Kd.R_far (p := ⟨gb248, 2, none⟩) (Kd.R_far (p := ⟨gb248, 1, none⟩) (Kd.R_far (p := ⟨gb248, 0, none⟩) (Kd.R_types HO284.out BK248.out (by decide)) (fun _ hk => hk.2) (.bool t285)) (fun _ hk => hk.2) (.int .i64 t286)) (fun _ hk => hk.2) (.int .i64 t287)) (fun _ hk => hk.1)⟩, ⟨by (with_reducible repeat (first | refine blk_drewN ?_ _ | refine blk_drew ?_ | refine blk_alloc ?_ _)); refine blk_far ?_ NB247_248.out _; (with_reducible repeat (first | refine blk_drewN ?_ _ | refine blk_drew ?_ | refine blk_alloc ?_ _)); refine blk_far ?_ NB247_248.out _; (with_reducible repeat (first | refine blk_drewN ?_ _ | refine blk_drew ?_ | refine blk_alloc ?_ _)); refine blk_far ?_ NB247_248.out _; (with_reducible repeat (first | refine blk_drewN ?_ _ | refine blk_drew ?_ | refine blk_alloc ?_ _)); exact BK247.out⟩, ⟨by (with_reducible repeat (first | refine blk_drewN ?_ _ | refine blk_drew ?_ | refine blk_alloc ?_ _)); refine blk_put (cs := #[.bool t285, .int .i64 t286, .int .i64 x249002_1]) ?_ 2 _ rfl; (with_reducible repeat (first | refine blk_drewN ?_ _ | refine blk_drew ?_ | refine blk_alloc ?_ _)); refine blk_put (cs := #[.bool t285, .int .i64 x249001_1, .int .i64 x249002_1]) ?_ 1 _ rfl; (with_reducible repeat (first | refine blk_drewN ?_ _ | refine blk_drew ?_ | refine blk_alloc ?_ _)); refine blk_put (cs := #[.bool x249000_1, .int .i64 x249001_1, .int .i64 x249002_1]) ?_ 0 _ rfl; (with_reducible repeat (first | refine blk_drewN ?_ _ | refine blk_drew ?_ | refine blk_alloc ?_ _)); exact BK248.out⟩, ⟨by repeat (first | (with_reducible first | exact HB.out | apply below_alloc | apply pw_below_drewN | apply below_drew1 | refine below_set ?_ GE247.out | refine below_set ?_ GE248.out) | exact HB.out)⟩⟩
                · rw [if_neg c28] at H
                  exact absurd H (by simp)
              · rw [if_neg c27] at H
                exact absurd H (by simp)
            · rw [if_neg c25] at H
              exact absurd H (by simp)
        · rw [if_neg c13] at H
          have c13b0 : decide (x10_1 < (l0.length : Int)) = false := decide_eq_false c13
          clear c13
          replace H := Option.bind_eq_some_iff.mp H
          obtain ⟨t249, A480, H⟩ := H
          replace H : (if t241.length + t249.length < 140737488355328 then (some ((t241 ++ t249), 0)) else (none)) = some (r1, r2) := H
          have A48 := Aside0.mk A480
          clear A480
          by_cases c49 : t241.length + t249.length < 140737488355328
          · rw [if_pos c49] at H
            have LMc49 := Aside0.mk c49
            clear c49
            obtain ⟨y252, hy252⟩ : ∃ y_ : List Int, y_ = (t241 ++ t249) := ⟨_, rfl⟩
            replace H : (some (y252, 0)) = some (r1, r2) := by first | (rw [hy252]; with_reducible exact H) | (have H2_ := (Option.bind_some _ _).symm.trans H; rw [hy252]; with_reducible exact H2_) | (have H2_ := (Option.bind_some _ _).symm.trans H; with_reducible exact H2_) | with_reducible exact H | (rw [hy252]; exact H) | exact H
            have Ny252 := Aside0.mk hy252
            clear hy252
            simp only [Option.some.injEq, Prod.mk.injEq] at H
            obtain ⟨rfl, rfl⟩ := H
            obtain ⟨Ao50, co50, eo50⟩ := Kd.R_slice HO_6.out
            subst eo50
            go_wp2_with (first | ((with_reducible refine gate_callee (f := 31) rfl ?_); refine goesL_ (some 107) rfl rfl Tryd.func31 (by kernel_rfl) rfl #[.slice Ao50 x6_1.length co50] rfl (by (try simp only [List.map_toArray, List.map_cons, List.map_nil]); first | done | rfl | (simp only [List.length_drop, List.length_take]; rfl)) ?_; (with_reducible refine (thermographref03_Bytes.calls k1 _ _ x6_1 t249 _ ?side1 ?side2 A48.out).mono ?_); (case side1 => repeat (first | exact (Kd.R_reads' HO_6.out).2.2 | (with_reducible refine Kd.C_alloc ?_ _) | (with_reducible refine Kd.C_drewN ?_ _) | (with_reducible refine Kd.C_drew ?_))); (case side2 => exact (Kd.R_reads' HO_6.out).2.1); rintro e w51 ⟨v250, rfl, ho0, hb⟩; refine ⟨_, rfl, ?_⟩; have n0_ := Aside0.mk (Kd.R_elder' (by (with_reducible repeat (first | apply Kd.R_alloc | apply Kd.R_drewN | apply Kd.R_drew)); exact HO_5.out) (Kd.R_base ho0) hb); have n1_ := Aside0.mk (Kd.R_elder' (by (with_reducible repeat (first | apply Kd.R_alloc | apply Kd.R_drewN | apply Kd.R_drew)); exact HO_6.out) (Kd.R_base ho0) hb); have n2_ := Aside0.mk (Kd.R_lower (Kd.R_new' (Kd.R_new' ho0 (Kd.R_lt (by (with_reducible repeat (first | apply Kd.R_alloc | apply Kd.R_drewN | apply Kd.R_drew)); exact HO_5.out))) (Kd.R_lt (by (with_reducible repeat (first | apply Kd.R_alloc | apply Kd.R_drewN | apply Kd.R_drew)); exact HO_6.out))) (below_size (by repeat (first | (with_reducible first | exact HB.out | apply below_alloc | apply pw_below_drewN | apply below_drew1 | refine below_set ?_ GE247.out | refine below_set ?_ GE248.out) | exact HB.out)))); have n3_ := Aside0.mk (blk_below (g := gb247) (o := .cells #[.bool x248000_1, .int .i64 x248001_1, .int .i64 x248002_1] 55 (0, 0)) (by (with_reducible repeat (first | refine blk_drewN ?_ _ | refine blk_drew ?_ | refine blk_alloc ?_ _)); exact BK247.out) hb); have n4_ := Aside0.mk (blk_below (g := gb248) (o := .cells #[.bool x249000_1, .int .i64 x249001_1, .int .i64 x249002_1] 55 (0, 0)) (by (with_reducible repeat (first | refine blk_drewN ?_ _ | refine blk_drew ?_ | refine blk_alloc ?_ _)); exact BK248.out) hb); have n5_ := Aside0.mk (below_step (by repeat (first | (with_reducible first | exact HB.out | apply below_alloc | apply pw_below_drewN | apply below_drew1 | refine below_set ?_ GE247.out | refine below_set ?_ GE248.out) | exact HB.out)) hb); clear HO_5; clear HO_6; clear BK247; clear BK248; clear HB; have HO_5 := n0_; have HO_6 := n1_; have HO251 := n2_; have BK247 := n3_; have BK248 := n4_; have HB := n5_; clear n0_ n1_ n2_ n3_ n4_ n5_; (try clear hb); (try clear hb2); (try clear hk); (try clear hi); (try clear ho0); obtain ⟨Ao53, co53, eo53⟩ := Kd.R_slice HO251.out; subst eo53) | ((with_reducible refine gate_builtin (b := .append) (xs := #[.tmp 105, .tmp 107]) rfl ?_); at_builtin; refine Kd.R_append_rows (Kd.int .u8) (w0 := w) w.heap.size rfl (.tmp 105) (.tmp 107) 23 5 (.int .u8 0) 1 rfl Tryd.underlying23 info5 rfl (by decide) (by omega) v242 t241 t249 _ _ _ (fun k_ => some k_ ≠ (.slice Ao50 x6_1.length co50 : Value).ownBlock ∧ some k_ ≠ (.slice Ao53 t249.length co53 : Value).ownBlock) (fun _ => False) rfl rfl ?aO ?aR (fun _ _ h => h) (fun _ h => h.elim) ?aF ?aB ?aS ?aL ?_; (case aR => repeat (first | exact (Kd.R_reads' HO251.out).2.2 | (with_reducible refine Kd.C_alloc ?_ _) | (with_reducible refine Kd.C_drewN ?_ _) | (with_reducible refine Kd.C_drew ?_))); (case aB => exact (by repeat (first | (with_reducible first | exact HB.out | apply below_alloc | apply pw_below_drewN | apply below_drew1 | refine below_set ?_ GE247.out | refine below_set ?_ GE248.out) | exact HB.out))); (case aF => exact (fun k_ hk => ⟨Kd.fresh' (Kd.R_lt (by (with_reducible repeat (first | apply Kd.R_alloc | apply Kd.R_drewN | apply Kd.R_drew)); exact HO_6.out)) k_ hk, Kd.fresh' (Kd.R_lt (by (with_reducible repeat (first | apply Kd.R_alloc | apply Kd.R_drewN | apply Kd.R_drew)); exact HO251.out)) k_ hk⟩)); (case aO => exact (by (with_reducible repeat (first | apply Kd.R_alloc | apply Kd.R_drewN | apply Kd.R_drew)); exact HO_5.out)); (case aS => exact (below_size (by repeat (first | (with_reducible first | exact HB.out | apply below_alloc | apply pw_below_drewN | apply below_drew1 | refine below_set ?_ GE247.out | refine below_set ?_ GE248.out) | exact HB.out)))); (case aL => have := LMc49.out; omega); intro v253 w52 ho hb hg hat; rw [← Ny252.out] at ho; have n0_ := Aside0.mk (Kd.R_after (ok := (fun k_ => some k_ ≠ (.slice Ao53 t249.length co53 : Value).ownBlock)) (by (with_reducible repeat (first | apply Kd.R_alloc | apply Kd.R_drewN | apply Kd.R_drew)); exact Kd.R_mono HO_6.out (fun _ hk => ⟨hk.2, hk.1⟩)) hg hat); have n1_ := Aside0.mk (blk_grown (g := gb247) (o := .cells #[.bool x248000_1, .int .i64 x248001_1, .int .i64 x248002_1] 55 (0, 0)) (by (with_reducible repeat (first | refine blk_drewN ?_ _ | refine blk_drew ?_ | refine blk_alloc ?_ _)); exact BK247.out) hg (Kd.R_ne HO_5.out BK247.out (by decide))); have n2_ := Aside0.mk (blk_grown (g := gb248) (o := .cells #[.bool x249000_1, .int .i64 x249001_1, .int .i64 x249002_1] 55 (0, 0)) (by (with_reducible repeat (first | refine blk_drewN ?_ _ | refine blk_drew ?_ | refine blk_alloc ?_ _)); exact BK248.out) hg (Kd.R_ne HO_5.out BK248.out (by decide))); have n3_ := Aside0.mk (Kd.R_after (ok := (fun k_ => some k_ ≠ (.slice Ao50 x6_1.length co50 : Value).ownBlock)) (by (with_reducible repeat (first | apply Kd.R_alloc | apply Kd.R_drewN | apply Kd.R_drew)); exact Kd.R_mono HO251.out (fun _ hk => ⟨hk.2, hk.1.2⟩)) hg hat); have n4_ := Aside0.mk (hb); have n5_ := Aside0.mk (ho); clear HO_6; clear BK247; clear BK248; clear HO251; clear HB; clear HO_5; have HO_6 := n0_; have BK247 := n1_; have BK248 := n2_; have HO251 := n3_; have HB := n4_; have HO254 := n5_; clear n0_ n1_ n2_ n3_ n4_ n5_; clear ho hb hg hat))
            go_ret2
            exact ⟨_, by first | rfl | (simp [errW_none, errW_some] <;> rfl) | (simp [*, errW_none, errW_some] <;> rfl), by (with_reducible repeat (first | apply Kd.R_alloc | apply Kd.R_drewN | apply Kd.R_drew)); exact Kd.R_mono HO254.out (fun _ hk => trivial), by repeat (first | (with_reducible first | exact HB.out | apply below_alloc | apply pw_below_drewN | apply below_drew1 | refine below_set ?_ GE247.out | refine below_set ?_ GE248.out) | exact HB.out)⟩
          · rw [if_neg c49] at H
            exact absurd H (by simp)
  · rw [if_neg c3] at H
    have c3b0 : (t240 == 0) = false := beq_eq_false_iff_ne.mpr c3
    have c3b1 : (t240 != 0) = true := bne_iff_ne.mpr c3
    simp only [Option.some.injEq, Prod.mk.injEq] at H
    obtain ⟨rfl, rfl⟩ := H
    go_enter Tryd.func14, Tryd.ntmps14
    go_wp2_with (first | ((with_reducible refine gate_callee (f := 12) rfl ?_); refine goesL_ (some 13) rfl rfl Tryd.func12 (by kernel_rfl) rfl #[.slice A0 l0.length c0] rfl (by (try simp only [List.map_toArray, List.map_cons, List.map_nil]); first | done | rfl | (simp only [List.length_drop, List.length_take]; rfl)) ?_; (with_reducible refine (thermographref05_Check.calls k _ _ l0 t240 _ ?side1 ?side2 A2.out).mono ?_); (case side1 => repeat (first | exact HR0.out | (with_reducible refine Kd.C_alloc ?_ _) | (with_reducible refine Kd.C_drewN ?_ _) | (with_reducible refine Kd.C_drew ?_))); (case side2 => exact HC0.out); rintro e w' ⟨rfl, ⟨nd, rfl⟩⟩; refine ⟨_, rfl, ?_⟩))
    go_ret2
    exact ⟨_, by first | rfl | (simp [errW_none, errW_some] <;> rfl) | (simp [*, errW_none, errW_some] <;> rfl), by first | exact Kd.R_nil _ _ _ _ _ | exact Kd.N_nil _ _ _ _ _ | exact Kd.V_nil _ _ _ _ _ | exact Kd.Q_nil _ _ _ _ _ | exact Kd.S_nil _ _ _ _ _, by repeat (first | (with_reducible first | exact HB.out | apply below_alloc | apply pw_below_drewN | apply below_drew1) | exact HB.out)⟩
end Go.Proofs.YtmnlbedgkjnodaaDoor.QB
namespace Go.Proofs.YtmnlbedgkjnodaaDoor.TeE
open Go.RowKit Go.Proofs.YtmnlbedgkjnodaaDoorW.PrintWords Go.Proofs.YtmnlbedgkjnodaaDoorW.PrintLast Go.Proofs.YtmnlbedgkjnodaaDoorW.PrintMore Go.Proofs.YtmnlbedgkjnodaaDoor.QB Go.Proofs.YtmnlbedgkjnodaaDoor.Bt Go.Proofs.YtmnlbedgkjnodaaDoor.Uv Go.Proofs.YtmnlbedgkjnodaaDoor.UvP Go.Proofs.YtmnlbedgkjnodaaDoor.UvR Go.Proofs.YtmnlbedgkjnodaaDoor.WrW Go.Proofs.YtmnlbedgkjnodaaDoor.BtR Go.Proofs.YtmnlbedgkjnodaaDoor.TzP Go.Proofs.YtmnlbedgkjnodaaDoor.TzW Go.Proofs.YtmnlbedgkjnodaaDoor.TeP Go.Proofs.YtmnlbedgkjnodaaDoor.TeW Go.Proofs.YtmnlbedgkjnodaaDoor.TeR
theorem shr_nat (v i : Nat) (hi : i ≤ 64) : shr .u64 (v : Int) (i : Int) = ((v / 2 ^ i : Nat) : Int) := by
  unfold shr
  rw [Int.toNat_natCast, show IntKind.bits .u64 = 64 from rfl, Nat.min_eq_left hi, Int.natCast_ediv, Int.natCast_pow]
  rfl
theorem bit_at (v i : Nat) (hv : v < 18446744073709551616) (hi : i ≤ 64) : Go.bits .and .u64 (shr .u64 (v : Int) (i : Int)) 1 = ((v / 2 ^ i % 2 : Nat) : Int) := by
  have hle : v / 2 ^ i < 18446744073709551616 := Nat.lt_of_le_of_lt (Nat.div_le_self _ _) hv
  have h := u64_and_nat (v / 2 ^ i) 1 hle (by omega)
  rw [nat_mask1] at h
  rw [shr_nat v i hi, show (1 : Int) = ((1 : Nat) : Int) from rfl, h]
theorem leads_l0 (y : Nat) (hy : y < 18446744073709551616) : ∀ (d n k : Nat), n + d = 31 → d < k → y < 2 ^ (64 - n) → thermographref05_leads.l0 k (y : Int) (n : Int) = some ((lz y : Nat) : Int) := by
  intro d
  induction d with
  | zero =>
    intro n k hn hk hb
    obtain ⟨k, rfl⟩ : ∃ m, k = m + 1 := ⟨k - 1, by omega⟩
    obtain rfl : n = 31 := by omega
    have h1 := Lib.bitLen_le y 33 (by omega) hb
    simp only [thermographref05_leads.l0]
    rw [if_neg (by omega), show lz y = 31 from by unfold lz; omega]
  | succ d ih =>
    intro n k hn hk hb
    obtain ⟨k, rfl⟩ : ∃ m, k = m + 1 := ⟨k - 1, by omega⟩
    have hw : wrap64 (63 - (n : Int)) = ((63 - n : Nat) : Int) := by unfold wrap64; omega
    have hw2 : wrap64 ((n : Int) + 1) = ((n + 1 : Nat) : Int) := by unfold wrap64; omega
    have hp : (2 : Nat) ^ (64 - n) = 2 ^ (63 - n) * 2 := by rw [← Nat.pow_succ]; congr 1; omega
    have hp0 : 0 < (2 : Nat) ^ (63 - n) := Nat.pow_pos (by omega)
    have hq : y / 2 ^ (63 - n) < 2 := by rw [Nat.div_lt_iff_lt_mul hp0]; omega
    simp only [thermographref05_leads.l0]
    rw [if_pos (by omega), hw, if_pos (by omega), bit_at y (63 - n) hy (by omega)]
    by_cases h : y < 2 ^ (63 - n)
    · have e : y / 2 ^ (63 - n) = 0 := Nat.div_eq_of_lt h
      rw [if_pos (by rw [e]; rfl), hw2]
      exact ih (n + 1) k (by omega) (by omega) (by rw [show 64 - (n + 1) = 63 - n from by omega]; exact h)
    · have e : y / 2 ^ (63 - n) = 1 := by
        have : 1 ≤ y / 2 ^ (63 - n) := (Nat.le_div_iff_mul_le hp0).2 (by omega)
        omega
      rw [if_neg (by rw [e]; decide)]
      have h1 := Lib.bitLen_le y (64 - n) (by omega) hb
      have h2 : y < 2 ^ Lib.bitLen y := bitLenAux_lt 64 y hy
      have h3 : 63 - n < Lib.bitLen y := (Nat.pow_lt_pow_iff_right (by omega : 1 < 2)).1 (show 2 ^ (63 - n) < 2 ^ Lib.bitLen y from by omega)
      rw [show lz y = n from by unfold lz; omega]
theorem leads_f {y : Nat} (hy : y < 18446744073709551616) {k : Nat} (hk : 32 ≤ k) : thermographref05_leads.f k (y : Int) = some ((lz y : Nat) : Int) := leads_l0 y hy 31 0 k rfl (by omega) hy
theorem trails_l0 (y : Nat) (h0 : y ≠ 0) (hy : y < 18446744073709551616) : ∀ (d n k : Nat), n + d = tz y → d < k → thermographref05_trails.l0 k (y : Int) (n : Int) = some ((tz y : Nat) : Int) := by
  obtain ⟨m, hm, ht⟩ := tz_low h0 hy
  intro d
  induction d with
  | zero =>
    intro n k hn hk
    obtain ⟨k, rfl⟩ : ∃ m, k = m + 1 := ⟨k - 1, by omega⟩
    obtain rfl : n = tz y := by omega
    have e : y / 2 ^ tz y = 2 * m + 1 := by
      conv => lhs; lhs; rw [hm]
      exact Nat.mul_div_cancel_left _ (Nat.pow_pos (by omega))
    simp only [thermographref05_trails.l0]
    rw [if_pos (by omega), if_pos (by omega), bit_at y (tz y) hy (by omega), if_neg (by rw [e]; omega)]
  | succ d ih =>
    intro n k hn hk
    obtain ⟨k, rfl⟩ : ∃ m, k = m + 1 := ⟨k - 1, by omega⟩
    have hw2 : wrap64 ((n : Int) + 1) = ((n + 1 : Nat) : Int) := by unfold wrap64; omega
    have e : y / 2 ^ n % 2 = 0 := by
      have h1 : y = 2 ^ n * (2 * (2 ^ d * (2 * m + 1))) := by
        conv => lhs; rw [hm]
        rw [← hn, show n + (d + 1) = n + d + 1 from rfl, Nat.pow_succ, Nat.pow_add, Nat.mul_assoc, Nat.mul_assoc, Nat.mul_left_comm]
        simp only [Nat.mul_left_comm, Nat.mul_comm, Nat.mul_assoc]
      rw [h1, Nat.mul_div_cancel_left _ (Nat.pow_pos (by omega))]
      omega
    simp only [thermographref05_trails.l0]
    rw [if_pos (by omega), if_pos (by omega), bit_at y n hy (by omega), if_pos (by rw [e]; rfl), hw2]
    exact ih (n + 1) k (by omega) (by omega)
theorem trails_f {y : Nat} (h0 : y ≠ 0) (hy : y < 18446744073709551616) {k : Nat} (hk : 65 ≤ k) : thermographref05_trails.f k (y : Int) = some ((tz y : Nat) : Int) := by
  have := tz_low h0 hy
  exact trails_l0 y h0 hy (tz y) 0 k (by omega) (by omega)
def rb : Win → Bool
  | none => false
  | some _ => true
def rl : Win → Int
  | none => 0
  | some p => p.1
def rt : Win → Int
  | none => 0
  | some p => p.2
theorem ref_time_f {x : Int} (hx0 : -9223372036854775808 ≤ x) (hx1 : x < 9223372036854775808) {l : List Int} (hl : l.length ≤ 140737470000000) {k : Nat} (hk : 100 ≤ k) : thermographref05_time.f k l x = some (l ++ timeB x) := by
  obtain ⟨k, rfl⟩ : ∃ m, k = m + 3 := ⟨k - 3, by omega⟩
  have put : ∀ (k' v m : Nat) (n : Int) (vi : Int) (l' : List Int), 65 ≤ k' → v < 18446744073709551616 → vi = (v : Int) → cutN n = m → l'.length ≤ 140737480000000 → thermographref03_Put.f k' l' vi n = some (l' ++ bitsOf v m) := by
    intro k' v m n vi l' h1 h2 h3 h4 h5
    subst h3 h4
    exact ref_Put_f h2 h1 h5
  have hc : ∀ (a : Int) (hlo : 0 ≤ x + a) (hhi : x + a ≤ 9000000) (ha : 0 ≤ a ∧ a ≤ 5000), IntKind.u64.wrap (wrap64 (x + a)) = (((x + a).toNat : Nat) : Int) := by
    intro a hlo hhi ha
    rw [show wrap64 (x + a) = x + a from by unfold wrap64; omega, IntKind.wrap_u64]
    omega
  unfold thermographref05_time.f timeB
  by_cases h0 : x = 0
  · rw [if_pos h0, if_pos h0, put (k + 3) 0 1 1 0 l (by omega) (by omega) rfl rfl (by omega)]
    rfl
  rw [if_neg h0, if_neg h0]
  by_cases h1 : -63 ≤ x ∧ x ≤ 64
  · rw [if_pos h1, if_pos (show x ≥ -63 from h1.1)]
    simp only [thermographref05_time.j0]
    rw [if_pos (decide_eq_true h1.2), put (k + 2) 2 2 2 2 l (by omega) (by omega) rfl rfl (by omega)]
    simp only [Option.bind_some]
    rw [put (k + 2) (x + 63).toNat 7 7 _ _ (by omega) (by omega) (hc 63 (by omega) (by omega) (by omega)) rfl (by rw [List.length_append, bitsOf_length]; omega)]
    simp only [Option.bind_some, List.append_assoc]
  rw [if_neg h1]
  have e0 : ∀ b : Bool, (if x ≥ -63 then thermographref05_time.j0 (k + 3) l x (decide (x ≤ 64)) else thermographref05_time.j0 (k + 3) l x false) = thermographref05_time.j0 (k + 3) l x false := by
    intro b
    by_cases h : x ≥ -63
    · rw [if_pos h, decide_eq_false (fun h2 => h1 ⟨h, h2⟩)]
    · rw [if_neg h]
  rw [e0 true]
  simp only [thermographref05_time.j0]
  rw [if_neg (by decide)]
  by_cases h2 : -255 ≤ x ∧ x ≤ 256
  · rw [if_pos h2, if_pos (show x ≥ -255 from h2.1)]
    simp only [thermographref05_time.j1]
    rw [if_pos (decide_eq_true h2.2), put (k + 1) 6 3 3 6 l (by omega) (by omega) rfl rfl (by omega)]
    simp only [Option.bind_some]
    rw [put (k + 1) (x + 255).toNat 9 9 _ _ (by omega) (by omega) (hc 255 (by omega) (by omega) (by omega)) rfl (by rw [List.length_append, bitsOf_length]; omega)]
    simp only [Option.bind_some, List.append_assoc]
  rw [if_neg h2]
  have e1 : (if x ≥ -255 then thermographref05_time.j1 (k + 2) l x (decide (x ≤ 256)) else thermographref05_time.j1 (k + 2) l x false) = thermographref05_time.j1 (k + 2) l x false := by
    by_cases h : x ≥ -255
    · rw [if_pos h, decide_eq_false (fun h3 => h2 ⟨h, h3⟩)]
    · rw [if_neg h]
  rw [e1]
  simp only [thermographref05_time.j1]
  rw [if_neg (by decide)]
  by_cases h3 : -2047 ≤ x ∧ x ≤ 2048
  · rw [if_pos h3, if_pos (show x ≥ -2047 from h3.1)]
    simp only [thermographref05_time.j2]
    rw [if_pos (decide_eq_true h3.2), put k 14 4 4 14 l (by omega) (by omega) rfl rfl (by omega)]
    simp only [Option.bind_some]
    rw [put k (x + 2047).toNat 12 12 _ _ (by omega) (by omega) (hc 2047 (by omega) (by omega) (by omega)) rfl (by rw [List.length_append, bitsOf_length]; omega)]
    simp only [Option.bind_some, List.append_assoc]
  rw [if_neg h3]
  have e2 : (if x ≥ -2047 then thermographref05_time.j2 (k + 1) l x (decide (x ≤ 2048)) else thermographref05_time.j2 (k + 1) l x false) = thermographref05_time.j2 (k + 1) l x false := by
    by_cases h : x ≥ -2047
    · rw [if_pos h, decide_eq_false (fun h4 => h3 ⟨h, h4⟩)]
    · rw [if_neg h]
  rw [e2]
  simp only [thermographref05_time.j2]
  rw [if_neg (by decide), put k 15 4 4 15 l (by omega) (by omega) rfl rfl (by omega)]
  simp only [Option.bind_some]
  rw [put k (x % 18446744073709551616).toNat 64 64 _ _ (by omega) (by omega) (by rw [IntKind.wrap_u64]; omega) rfl (by rw [List.length_append, bitsOf_length]; omega)]
  simp only [Option.bind_some, List.append_assoc]
theorem ref_value_f {y : Nat} (hy : y < 18446744073709551616) {w : Win} (hw : w.Ok) {l : List Int} (hl : l.length ≤ 140737470000000) {k : Nat} (hk : 100 ≤ k) :
    thermographref05_value.f k l (rb w) (rl w) (rt w) (y : Int) = some (l ++ (valueB y w).1, rb (valueB y w).2, rl (valueB y w).2, rt (valueB y w).2) := by
  obtain ⟨k, rfl⟩ : ∃ m, k = m + 1 := ⟨k - 1, by omega⟩
  have put : ∀ (k' v m : Nat) (n : Int) (vi : Int) (l' : List Int), 65 ≤ k' → v < 18446744073709551616 → vi = (v : Int) → cutN n = m → l'.length ≤ 140737480000000 → thermographref03_Put.f k' l' vi n = some (l' ++ bitsOf v m) := by
    intro k' v m n vi l' h1 h2 h3 h4 h5
    subst h3 h4
    exact ref_Put_f h2 h1 h5
  unfold thermographref05_value.f valueB
  by_cases h0 : y = 0
  · rw [if_pos (by omega), if_pos h0, put (k + 1) 0 1 1 0 l (by omega) (by omega) rfl rfl (by omega)]
    rfl
  have hlt := lz_tz h0 hy
  have hlz := lz_le y
  rw [if_neg (by omega), if_neg h0, leads_f hy (by omega), trails_f h0 hy (by omega)]
  simp only [Option.bind_some]
  have hj : (if rb w = true then (if ((lz y : Nat) : Int) ≥ rl w then thermographref05_value.j0 (k + 1) l (y : Int) ((lz y : Nat) : Int) ((tz y : Nat) : Int) (decide (((tz y : Nat) : Int) ≥ rt w)) (rb w) (rl w) (rt w) else thermographref05_value.j0 (k + 1) l (y : Int) ((lz y : Nat) : Int) ((tz y : Nat) : Int) false (rb w) (rl w) (rt w)) else thermographref05_value.j0 (k + 1) l (y : Int) ((lz y : Nat) : Int) ((tz y : Nat) : Int) false (rb w) (rl w) (rt w)) = thermographref05_value.j0 (k + 1) l (y : Int) ((lz y : Nat) : Int) ((tz y : Nat) : Int) (fits y w) (rb w) (rl w) (rt w) := by
    cases w with
    | none => rfl
    | some p =>
      rw [if_pos (show rb (some p) = true from rfl)]
      show (if ((lz y : Nat) : Int) ≥ (p.1 : Int) then _ else _) = _
      rw [show fits y (some p) = (decide (p.1 ≤ lz y) && decide (p.2 ≤ tz y)) from rfl]
      by_cases h : p.1 ≤ lz y
      · rw [if_pos (by omega), decide_eq_true h, Bool.true_and]
        congr 1
        rw [decide_eq_decide]
        show ((tz y : Nat) : Int) ≥ (p.2 : Int) ↔ _
        omega
      · rw [if_neg (by omega), decide_eq_false h, Bool.false_and]
  rw [hj]
  simp only [thermographref05_value.j0]
  by_cases hf : fits y w = true
  · rw [if_pos hf, if_pos hf, put k 2 2 2 2 l (by omega) (by omega) rfl rfl (by omega)]
    simp only [Option.bind_some]
    cases w with
    | none => cases hf
    | some p =>
      have hab := (hw p rfl).2
      show (if (0 : Int) ≤ (p.2 : Int) then _ else _) = _
      rw [if_pos (by omega)]
      show ((thermographref03_Put.f k (l ++ bitsOf 2 2) (shr .u64 (y : Int) (p.2 : Int)) (wrap64 (wrap64 (64 - (p.1 : Int)) - (p.2 : Int)))).bind _) = _
      have hww : wrap64 (wrap64 (64 - (p.1 : Int)) - (p.2 : Int)) = ((64 - p.1 - p.2 : Nat) : Int) := by
        rw [show wrap64 (64 - (p.1 : Int)) = 64 - (p.1 : Int) from by unfold wrap64; omega]
        unfold wrap64
        omega
      rw [hww, put k (y / 2 ^ p.2) (64 - p.1 - p.2) _ _ _ (by omega) (Nat.lt_of_le_of_lt (Nat.div_le_self _ _) hy) (shr_nat y p.2 (by omega)) (cutN_nat _ (by omega)) (by rw [List.length_append, bitsOf_length]; omega)]
      simp only [Option.bind_some, List.append_assoc]
      rfl
  · rw [if_neg hf, if_neg hf, put k 3 2 2 3 l (by omega) (by omega) rfl rfl (by omega)]
    simp only [Option.bind_some]
    rw [put k (lz y) 5 5 _ _ (by omega) (by omega) (by rw [IntKind.wrap_u64]; omega) rfl (by rw [List.length_append, bitsOf_length]; omega)]
    simp only [Option.bind_some]
    have hw1 : wrap64 (wrap64 (63 - ((lz y : Nat) : Int)) - ((tz y : Nat) : Int)) = ((63 - lz y - tz y : Nat) : Int) := by
      rw [show wrap64 (63 - ((lz y : Nat) : Int)) = 63 - ((lz y : Nat) : Int) from by unfold wrap64; omega]
      unfold wrap64
      omega
    have hw2 : wrap64 (wrap64 (64 - ((lz y : Nat) : Int)) - ((tz y : Nat) : Int)) = ((64 - lz y - tz y : Nat) : Int) := by
      rw [show wrap64 (64 - ((lz y : Nat) : Int)) = 64 - ((lz y : Nat) : Int) from by unfold wrap64; omega]
      unfold wrap64
      omega
    rw [hw1, hw2, put k (63 - lz y - tz y) 6 6 _ _ (by omega) (by omega) (by rw [IntKind.wrap_u64]; omega) rfl (by simp only [List.length_append, bitsOf_length]; omega)]
    simp only [Option.bind_some]
    rw [if_pos (by omega), put k (y / 2 ^ tz y) (64 - lz y - tz y) _ _ _ (by omega) (Nat.lt_of_le_of_lt (Nat.div_le_self _ _) hy) (shr_nat y (tz y) (by omega)) (cutN_nat _ (by omega)) (by simp only [List.length_append, bitsOf_length]; omega)]
    simp only [Option.bind_some, List.append_assoc]
    rfl
theorem ref_Encode_l0 (l : List Pt) (hk : checkF l = 0) (hok : OkL l) (u : List Int) (hu : u.length ≤ 100) : ∀ (d i k : Nat), i + d = l.length → d + 200000 ≤ k →
    thermographref05_Encode.l0 k l u (goB l i).1 (goB l i).2.1 (i : Int) (rb (goB l i).2.2.1) (rl (goB l i).2.2.1) (rt (goB l i).2.2.1) (rb (goB l i).2.2.2) (rl (goB l i).2.2.2) (rt (goB l i).2.2.2) = some (u ++ pk (bitsT l), 0) := by
  obtain ⟨hn, hT, _⟩ := checkF_zero hk
  intro d
  induction d with
  | zero =>
    intro i k hi hk'
    obtain ⟨k, rfl⟩ : ∃ m, k = m + 1 := ⟨k - 1, by omega⟩
    obtain rfl : i = l.length := by omega
    have h1 := goB_length l l.length
    have h2 := pk_length (goB l l.length).1
    simp only [thermographref05_Encode.l0]
    rw [if_neg (by omega), ref_Bytes_f (goB_isBits l _) (by omega) (by omega)]
    simp only [Option.bind_some]
    rw [if_pos (by omega)]
    rfl
  | succ d ih =>
    intro i k hi hk'
    obtain ⟨k, rfl⟩ : ∃ m, k = m + 1 := ⟨k - 1, by omega⟩
    have hlt : i < l.length := by omega
    obtain ⟨t, v, s, hp, ht, hv, hs⟩ := pt_facts hT hok hlt
    have hih := ih (i + 1) k (by omega) (by omega)
    have hw : wrap64 ((i : Int) + 1) = ((i + 1 : Nat) : Int) := by unfold wrap64; omega
    have put : ∀ (v m : Nat) (n : Int) (vi : Int) (l' : List Int), v < 18446744073709551616 → vi = (v : Int) → cutN n = m → l'.length ≤ 140737480000000 → thermographref03_Put.f k l' vi n = some (l' ++ bitsOf v m) := by
      intro v m n vi l' h2 h3 h4 h5
      subst h3 h4
      exact ref_Put_f h2 (by omega) h5
    simp only [thermographref05_Encode.l0]
    rw [if_pos (by omega)]
    rcases Nat.eq_zero_or_pos i with h0 | h0
    · subst h0
      have hr0 : rd_T33 l 0 = ⟨(t : Int), (v : Int), (s : Int)⟩ := by
        have h := rdT l 0
        rw [hp] at h
        exact h
      rw [if_pos (show ((0 : Nat) : Int) = 0 from rfl), if_pos (by omega), hr0]
      simp only
      rw [put t 64 64 _ _ (by omega) (by rw [IntKind.wrap_u64]; omega) rfl (by simp [goB])]
      simp only [Option.bind_some]
      rw [put v 64 64 _ _ hv rfl rfl (by simp [goB, bitsOf_length])]
      simp only [Option.bind_some]
      rw [put s 64 64 _ _ hs rfl rfl (by simp [goB, bitsOf_length])]
      simp only [Option.bind_some]
      rw [hw]
      rw [goB_one, hp] at hih
      exact hih
    · obtain ⟨j, rfl⟩ : ∃ j, i = j + 1 := ⟨i - 1, by omega⟩
      have hjl : j < l.length := by omega
      obtain ⟨tq, vq, sq, hq, htq, hvq, hsq⟩ := pt_facts hT hok hjl
      have hok' := goB_ok hok (j + 1)
      have hdi := goB_dist hk (j + 1) (by omega)
      have hln := goB_length l (j + 1)
      have hm : wrap64 (((j + 1 : Nat) : Int) - 1) = (j : Int) := by unfold wrap64; omega
      rw [goB_succ, hp, hq] at hih
      obtain ⟨⟨bs, d', vw, sw⟩, hr⟩ : ∃ r, goB l (j + 1) = r := ⟨_, rfl⟩
      rw [hr] at hih hok' hdi hln ⊢
      simp only at hih hok' hdi hln ⊢
      rw [if_neg (by omega), if_pos (by omega), hm, if_pos (by omega), if_pos (by omega), rdT, rdT, hp, hq]
      simp only
      rw [show wrap64 ((t : Int) - (tq : Int)) = (t : Int) - (tq : Int) from by unfold wrap64; omega, show wrap64 ((t : Int) - (tq : Int) - d') = (t : Int) - (tq : Int) - d' from by unfold wrap64; omega]
      have hl1 := (timeB_length ((t : Int) - (tq : Int) - d')).2
      have hl2 := (valueB_length (v ^^^ vq) vw).2
      rw [ref_time_f (by omega) (by omega) (by omega) (by omega)]
      simp only [Option.bind_some]
      rw [bits_xor_u64_nat v vq hv hvq, bits_xor_u64_nat s sq hs hsq, ref_value_f (Nat.xor_lt_two_pow (n := 64) hv hvq) hok'.1 (by rw [List.length_append]; omega) (by omega)]
      simp only [Option.bind_some]
      rw [ref_value_f (Nat.xor_lt_two_pow (n := 64) hs hsq) hok'.2 (by rw [List.length_append, List.length_append]; omega) (by omega)]
      simp only [Option.bind_some]
      rw [hw]
      unfold TeP.step at hih
      simp only [Int.toNat_natCast] at hih
      rw [List.append_assoc, List.append_assoc, ← List.append_assoc (timeB _)]
      exact hih
theorem ref_Encode_f {l : List Pt} (hl : l.length ≤ 1000000) (hok : OkL l) {k : Nat} (hk1 : 2 * l.length + 300000 ≤ k) (hk2 : k ≤ 1000000) : thermographref05_Encode.f k l = some (encT l) := by
  unfold thermographref05_Encode.f
  rw [ref_check_f hl (by omega)]
  simp only [Option.bind_some]
  by_cases hk : checkF l = 0
  · obtain ⟨hn, _, _⟩ := checkF_zero hk
    have hlu := uv_length10 (v := l.length) (by omega)
    rw [if_pos hk, show IntKind.u64.wrap (l.length : Int) = (l.length : Int) from by rw [IntKind.wrap_u64]; omega, ref_Uvarint_f (by omega) (by omega) hk2 (by simp)]
    simp only [Option.bind_some, List.nil_append]
    rw [encT_ok hk]
    exact ref_Encode_l0 l hk hok (uv l.length) (by omega) l.length 0 k (by omega) (by omega)
  · rw [if_neg hk, encT_bad hk]
end Go.Proofs.YtmnlbedgkjnodaaDoor.TeE
