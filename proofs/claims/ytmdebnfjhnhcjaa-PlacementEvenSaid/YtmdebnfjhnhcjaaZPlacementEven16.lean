/- What functions of the translation come to, each as a Lean function, and a proof that the call comes to just that; or a law's row, out of its plain law. Written by mp.py, a program of this session, which runs the printer of the kit with stand-in bodies for some library functions. -/
import Derived.Test.YtmdebnfjhnhcjaaZPlacementEven0
import Derived.Test.YtmdebnfjhnhcjaaZPlacementEven9
import Derived.Test.YtmdebnfjhnhcjaaZPlacementEven15
namespace Go.Proofs.Ytmdebnfjhnhcjaa.QB
open Go.RowKit Go.Proofs.YtmdebnfjhnhcjaaW.PrintWords Go.Proofs.YtmdebnfjhnhcjaaW.PrintLast Go.Proofs.YtmdebnfjhnhcjaaW.PrintMore
attribute [local go_sem] max2_int min2_int max_two min_two max_three min_three max_four min_four   -- for this text's walks alone
set_option linter.unusedVariables false
set_option linter.unusedSimpArgs false

end Go.Proofs.Ytmdebnfjhnhcjaa.QB
namespace Go.Proofs.Ytmdebnfjhnhcjaa.QB
open Go.RowKit Go.Proofs.YtmdebnfjhnhcjaaW.PrintWords Go.Proofs.YtmdebnfjhnhcjaaW.PrintLast Go.Proofs.YtmdebnfjhnhcjaaW.PrintMore
attribute [local go_sem] max2_int min2_int max_two min_two max_three min_three max_four min_four   -- for this text's walks alone
set_option linter.unusedVariables false
set_option linter.unusedSimpArgs false

/-! ### thermographlaw14_PlacementEven: function 3 -/
mutual
def thermographlaw14_PlacementEven.j0 : Nat → Int → Int → Bool → Int → List Int → List (List (S41)) → Option (Bool)
  | 0, _, _, _, _, _, _ => none
  | k + 1, x6, x8, x33, x374000, x374001, x374002 => if x33 = true then (some (x6 == x8)) else (thermographlaw14_PlacementEven.l0 k 8 0 0 x374000 x374001 x374002)
def thermographlaw14_PlacementEven.l0 : Nat → Int → Int → Int → Int → List Int → List (List (S41)) → Option (Bool)
  | 0, _, _, _, _, _, _ => none
  | k + 1, x9, x10, x11, x374000, x374001, x374002 => if x11 < (x374001.length : Int) then (if 0 ≤ x11 then ((placement_Load.f k x374000 x374001 x374002 (rd x374001 x11)).bind fun t384 => ((placement_Load.f k x374000 x374001 x374002 (rd x374001 x11)).bind fun t386 => (thermographlaw14_PlacementEven.l0 k (mn x9 t384) (mx x10 t386) (wrap64 (x11 + 1)) x374000 x374001 x374002))) else (none)) else (if (wrap64 (x10 - x9)) ≤ 1 then (some (decide (x10 ≥ 1))) else (some false))
end
def thermographlaw14_PlacementEven.f (k : Nat) (l0 : List Int) (a1 : Int) : Option (Bool) := if (l0.length : Int) > 256 then (some true) else ((placement_Init.f l0 a1).bind fun bt365 => ((thermographref14_Init.f l0 a1).bind fun bt374 => (if bt365.2.2.2 = bt374.2.2.2 then (thermographlaw14_PlacementEven.j0 k bt365.2.2.2 bt374.2.2.2 (bt365.2.2.2 != 0) bt365.1 bt365.2.1 bt365.2.2.1) else (thermographlaw14_PlacementEven.j0 k bt365.2.2.2 bt374.2.2.2 true bt365.1 bt365.2.1 bt365.2.2.1))))
theorem thermographlaw14_PlacementEven.mono_l : ∀ k, (∀ y0 y1 y2 y3 y4 y5, LeO (thermographlaw14_PlacementEven.j0 k y0 y1 y2 y3 y4 y5) (thermographlaw14_PlacementEven.j0 (k + 1) y0 y1 y2 y3 y4 y5)) ∧ (∀ y0 y1 y2 y3 y4 y5, LeO (thermographlaw14_PlacementEven.l0 k y0 y1 y2 y3 y4 y5) (thermographlaw14_PlacementEven.l0 (k + 1) y0 y1 y2 y3 y4 y5))
  | 0 => ⟨fun _ _ _ _ _ _ r h => by simp [thermographlaw14_PlacementEven.j0] at h, fun _ _ _ _ _ _ r h => by simp [thermographlaw14_PlacementEven.l0] at h⟩
  | k + 1 => by
    obtain ⟨ih0, ih1⟩ := thermographlaw14_PlacementEven.mono_l k
    refine ⟨?_, ?_⟩
    · intro y0 y1 y2 y3 y4 y5
      unfold thermographlaw14_PlacementEven.j0
      repeat' first
      | (with_reducible exact ih0 _ _ _ _ _ _)
      | (with_reducible exact ih1 _ _ _ _ _ _)
      | (with_reducible exact placement_Load.mono _ _ _ _ _)
      | (with_reducible exact LeO.refl _)
      | (with_reducible exact LeO.none _)
      | (with_reducible refine LeO.ite ?_ ?_)
      | (with_reducible refine LeO.bind ?_ (fun _ => ?_))
      | exact ih0 _ _ _ _ _ _
      | exact ih1 _ _ _ _ _ _
      | exact placement_Load.mono _ _ _ _ _
      | exact LeO.none _
      | refine LeO.ite ?_ ?_
      | refine LeO.bind ?_ (fun _ => ?_)
    · intro y0 y1 y2 y3 y4 y5
      unfold thermographlaw14_PlacementEven.l0
      repeat' first
      | (with_reducible exact ih0 _ _ _ _ _ _)
      | (with_reducible exact ih1 _ _ _ _ _ _)
      | (with_reducible exact placement_Load.mono _ _ _ _ _)
      | (with_reducible exact LeO.refl _)
      | (with_reducible exact LeO.none _)
      | (with_reducible refine LeO.ite ?_ ?_)
      | (with_reducible refine LeO.bind ?_ (fun _ => ?_))
      | exact ih0 _ _ _ _ _ _
      | exact ih1 _ _ _ _ _ _
      | exact placement_Load.mono _ _ _ _ _
      | exact LeO.none _
      | refine LeO.ite ?_ ?_
      | refine LeO.bind ?_ (fun _ => ?_)
theorem thermographlaw14_PlacementEven.mono : ∀ a0 a1 k, LeO (thermographlaw14_PlacementEven.f k a0 a1) (thermographlaw14_PlacementEven.f (k + 1) a0 a1) := by
  intro a0 a1 k
  obtain ⟨ih0, ih1⟩ := thermographlaw14_PlacementEven.mono_l k
  unfold thermographlaw14_PlacementEven.f
  repeat' first
      | (with_reducible exact ih0 _ _ _ _ _ _)
      | (with_reducible exact ih1 _ _ _ _ _ _)
      | (with_reducible exact placement_Load.mono _ _ _ _ _)
      | (with_reducible exact LeO.refl _)
      | (with_reducible exact LeO.none _)
      | (with_reducible refine LeO.ite ?_ ?_)
      | (with_reducible refine LeO.bind ?_ (fun _ => ?_))
      | exact ih0 _ _ _ _ _ _
      | exact ih1 _ _ _ _ _ _
      | exact placement_Load.mono _ _ _ _ _
      | exact LeO.none _
      | refine LeO.ite ?_ ?_
      | refine LeO.bind ?_ (fun _ => ?_)
def thermographlaw14_PlacementEven.T12 : Bool × List (List Nat × List Nat) := (true, [([], []), ([], []), ([], []), ([2], [2]), ([], []), ([3, 4], [3, 4]), ([5], [5]), ([1, 6], [1, 6]), ([0, 7], [0, 7]), ([8, 7, 0, 1, 2, 3, 4, 5, 6, 7, 8], [0, 8])])
def thermographlaw14_PlacementEven.B12 : List Nat := [0, 0, 0, 4, 0, 28, 60, 126, 255, 511]
theorem thermographlaw14_PlacementEven.tab12 : rtab .any (opsOf Try.f3 12) = thermographlaw14_PlacementEven.T12 := by kernel_rfl
theorem thermographlaw14_PlacementEven.bits12 : waitsOk thermographlaw14_PlacementEven.T12.2 thermographlaw14_PlacementEven.B12 = true := by kernel_rfl
def thermographlaw14_PlacementEven.T13 : Bool × List (List Nat × List Nat) := (true, [([], []), ([], []), ([], []), ([2], [2]), ([], []), ([3, 4], [3, 4]), ([5], [5]), ([1, 6], [1, 6]), ([0, 7], [0, 7]), ([8, 7, 0, 1, 2, 3, 4, 5, 6, 7, 8], [0, 8])])
def thermographlaw14_PlacementEven.B13 : List Nat := [0, 0, 0, 4, 0, 28, 60, 126, 255, 511]
theorem thermographlaw14_PlacementEven.tab13 : rtab .any (opsOf Try.f3 13) = thermographlaw14_PlacementEven.T13 := by kernel_rfl
theorem thermographlaw14_PlacementEven.bits13 : waitsOk thermographlaw14_PlacementEven.T13.2 thermographlaw14_PlacementEven.B13 = true := by kernel_rfl
set_option maxHeartbeats 8000000 in
set_option maxRecDepth 100000 in
theorem thermographlaw14_PlacementEven.calls (k : Nat) (A0 : Option Addr) (c0 : Nat) (l0 : List Int) (a1 : Int) (r : Bool) (w : World) (hr0 : Kd.C (Kd.int .i64) w A0 l0.length l0) (hc0 : l0.length ≤ c0) (h : thermographlaw14_PlacementEven.f k l0 a1 = some r) :
    Calls Try.prog 3 #[.slice A0 l0.length c0, .int .i64 a1] w fun e w' => e = .returned (.bool r) ∧ Below w.heap.size w w' := by
  have hu25 := Try.underlying25
  have HR0 := Aside0.mk hr0
  have HC0 := Aside0.mk hc0
  clear hr0 hc0
  have HB := Aside0.mk (Below.refl w.heap.size w)
  have H : (if (l0.length : Int) > 256 then (some true) else ((placement_Init.f l0 a1).bind fun bt365 => ((thermographref14_Init.f l0 a1).bind fun bt374 => (if bt365.2.2.2 = bt374.2.2.2 then (thermographlaw14_PlacementEven.j0 k bt365.2.2.2 bt374.2.2.2 (bt365.2.2.2 != 0) bt365.1 bt365.2.1 bt365.2.2.1) else (thermographlaw14_PlacementEven.j0 k bt365.2.2.2 bt374.2.2.2 true bt365.1 bt365.2.1 bt365.2.2.1))))) = some r := h
  clear h
  by_cases c3 : (l0.length : Int) > 256
  · rw [if_pos c3] at H
    have c3b0 : decide (256 < (l0.length : Int)) = true := decide_eq_true c3
    have c3b1 : decide (256 < l0.length) = true := decide_eq_true (by omega)
    clear c3
    obtain rfl := Option.some.inj H
    go_enter Try.func3, Try.ntmps3
    go_wp2
    go_ret
    exact ⟨by first | rfl | (simp [errW_none, errW_some] <;> rfl) | (simp [*, errW_none, errW_some] <;> rfl), by repeat (first | (with_reducible first | exact HB.out | apply below_alloc | apply pw_below_drewN | apply below_drew1) | exact HB.out)⟩
  · rw [if_neg c3] at H
    have c3b0 : decide (256 < (l0.length : Int)) = false := decide_eq_false c3
    have c3b1 : decide (256 < l0.length) = false := decide_eq_false (by omega)
    clear c3
    replace H := Option.bind_eq_some_iff.mp H
    obtain ⟨⟨t365, t366, t369, t372⟩, A40, H⟩ := H
    replace H : ((thermographref14_Init.f l0 a1).bind fun bt374 => (if t372 = bt374.2.2.2 then (thermographlaw14_PlacementEven.j0 k t372 bt374.2.2.2 (t372 != 0) t365 t366 t369) else (thermographlaw14_PlacementEven.j0 k t372 bt374.2.2.2 true t365 t366 t369))) = some r := H
    have A4 := Aside0.mk A40
    clear A40
    replace H := Option.bind_eq_some_iff.mp H
    obtain ⟨⟨t374, t375, t378, t381⟩, A50, H⟩ := H
    replace H : (if t372 = t381 then (thermographlaw14_PlacementEven.j0 k t372 t381 (t372 != 0) t365 t366 t369) else (thermographlaw14_PlacementEven.j0 k t372 t381 true t365 t366 t369)) = some r := H
    have A5 := Aside0.mk A50
    clear A50
    have HC6 := Aside0.mk H
    clear H
    go_enter Try.func3, Try.ntmps3
    go_upto_region 5 with (first | ((with_reducible refine gate_callee (f := 11) rfl ?_); refine goesL_ (some 18) rfl rfl Try.func11 (by kernel_rfl) rfl #[.slice A0 l0.length c0, .int .i64 a1] rfl (by (try simp only [List.map_toArray, List.map_cons, List.map_nil]); first | done | rfl | (simp only [List.length_drop, List.length_take]; rfl)) ?_; (with_reducible refine (placement_Init.calls _ _ l0 a1 t365 t366 t369 t372 _ ?side1 ?side2 A4.out).mono ?_); (case side1 => repeat (first | exact HR0.out | (with_reducible refine Kd.C_alloc ?_ _) | (with_reducible refine Kd.C_drewN ?_ _) | (with_reducible refine Kd.C_drew ?_))); (case side2 => exact HC0.out); rintro e w7 ⟨v367, v370, rfl, ho0, ho1, hb⟩; refine ⟨_, rfl, ?_⟩; have n0_ := Aside0.mk (Kd.R_lower ho0 (below_size (by repeat (first | (with_reducible first | exact HB.out | apply below_alloc | apply pw_below_drewN | apply below_drew1) | exact HB.out)))); have n1_ := Aside0.mk (Kd.S_lower ho1 (below_size (by repeat (first | (with_reducible first | exact HB.out | apply below_alloc | apply pw_below_drewN | apply below_drew1) | exact HB.out)))); have n2_ := Aside0.mk (below_step (by repeat (first | (with_reducible first | exact HB.out | apply below_alloc | apply pw_below_drewN | apply below_drew1) | exact HB.out)) hb); clear HB; have HO368 := n0_; have HO371 := n1_; have HB := n2_; clear n0_ n1_ n2_; (try clear hb); (try clear hb2); (try clear hk); (try clear hi); (try clear ho0); (try clear ho1)) | ((with_reducible refine gate_dst (N := 5) rfl ?_); refine box_event ?hg (N := 5) ?hd (cs := #[.int .i64 0, .slice none 0 0, .slice none 0 0]) (t := 25) ?hr ?_; (case hd => rfl); (case hg => rfl); (case hr => first | (go_simp; done) | (go_simp; rfl)); intro gb373 hg w8 hbox hb; have n0_ := Aside0.mk (Kd.R_below (by (with_reducible repeat (first | apply Kd.R_alloc | apply Kd.R_drewN | apply Kd.R_drew)); exact HO368.out) hb); have n1_ := Aside0.mk (Kd.S_below (by (with_reducible repeat (first | apply Kd.S_alloc | apply Kd.S_drewN | apply Kd.S_drew)); exact HO371.out) hb); have n2_ := Aside0.mk (below_step (by repeat (first | (with_reducible first | exact HB.out | apply below_alloc | apply pw_below_drewN | apply below_drew1) | exact HB.out)) hb); have n3_ := Aside0.mk (hbox); have n4_ := Aside0.mk ((by rw [hg]; exact (below_size (by repeat (first | (with_reducible first | exact HB.out | apply below_alloc | apply pw_below_drewN | apply below_drew1) | exact HB.out))) : w.heap.size ≤ gb373)); have n5_ := Aside0.mk ((by rw [hg]; exact (below_size (by repeat (first | (with_reducible first | exact HB.out | apply below_alloc | apply pw_below_drewN | apply below_drew1) | exact HB.out))) : w.heap.size ≤ gb373)); clear HO368; clear HO371; clear HB; have HO368 := n0_; have HO371 := n1_; have HB := n2_; have BK373 := n3_; have GW373 := n4_; have GE373 := n5_; clear n0_ n1_ n2_ n3_ n4_ n5_; clear hb hbox hg; have hcz9_0 : w8.cell? ⟨gb373, 0, none⟩ = some (.int .i64 0) := (blk_cell BK373.out 0).trans rfl; have hcz9_1 : w8.cell? ⟨gb373, 1, none⟩ = some (.slice none 0 0) := (blk_cell BK373.out 1).trans rfl; have hcz9_2 : w8.cell? ⟨gb373, 2, none⟩ = some (.slice none 0 0) := (blk_cell BK373.out 2).trans rfl; have hfz9_0 := blk_frozen BK373.out 0; have hfz9_1 := blk_frozen BK373.out 1; have hfz9_2 := blk_frozen BK373.out 2; obtain ⟨Ao10, co10, eo10⟩ := Kd.R_slice HO368.out; subst eo10; obtain ⟨Ao11, co11, eo11⟩ := Kd.S_slice HO371.out; subst eo11) | ((with_reducible refine gate_callee (f := 12) rfl ?_); refine goesL_ (some 24) rfl rfl Try.func12 (by kernel_rfl) rfl #[.slice A0 l0.length c0, .int .i64 a1] rfl (by (try simp only [List.map_toArray, List.map_cons, List.map_nil]); first | done | rfl | (simp only [List.length_drop, List.length_take]; rfl)) ?_; (with_reducible refine (thermographref14_Init.calls _ _ l0 a1 t374 t375 t378 t381 _ ?side1 ?side2 A5.out).mono ?_); (case side1 => exact Kd.C_below HR0.out (by repeat (first | (with_reducible first | exact HB.out | apply below_alloc | apply pw_below_drewN | apply below_drew1 | refine below_set ?_ GE373.out) | exact HB.out))); (case side2 => exact HC0.out); rintro e w12 ⟨v376, v379, rfl, ho0, ho1, hb⟩; refine ⟨_, rfl, ?_⟩; have n0_ := Aside0.mk (Kd.R_elder' (by (with_reducible repeat (first | apply Kd.R_alloc | apply Kd.R_drewN | apply Kd.R_drew)); exact (Kd.R_mono (Kd.R_far (p := ⟨gb373, 2, none⟩) (Kd.R_far (p := ⟨gb373, 1, none⟩) (Kd.R_far (p := ⟨gb373, 0, none⟩) (Kd.R_types HO368.out BK373.out (by decide)) (fun _ hk => hk.2) (.int .i64 t365)) (fun _ hk => hk.2) (.slice Ao10 t366.length co10)) (fun _ hk => hk.2) (.slice Ao11 t369.length co11)) (fun _ h_ => h_.1))) (Kd.R_base ho0) hb); have n1_ := Aside0.mk (Kd.S_elder' (by (with_reducible repeat (first | apply Kd.S_alloc | apply Kd.S_drewN | apply Kd.S_drew)); exact (Kd.S_mono (Kd.S_far (p := ⟨gb373, 2, none⟩) (Kd.S_far (p := ⟨gb373, 1, none⟩) (Kd.S_far (p := ⟨gb373, 0, none⟩) (Kd.S_types HO371.out BK373.out (by decide)) (fun _ hk => hk.2) (.int .i64 t365)) (fun _ hk => hk.2) (.slice Ao10 t366.length co10)) (fun _ hk => hk.2) (.slice Ao11 t369.length co11)) (fun _ h_ => h_.1))) (Kd.S_base ho1) hb); have n2_ := Aside0.mk (Kd.R_lower (Kd.R_new' ho0 (Kd.R_lt (by (with_reducible repeat (first | apply Kd.R_alloc | apply Kd.R_drewN | apply Kd.R_drew)); exact (Kd.R_mono (Kd.R_far (p := ⟨gb373, 2, none⟩) (Kd.R_far (p := ⟨gb373, 1, none⟩) (Kd.R_far (p := ⟨gb373, 0, none⟩) (Kd.R_types HO368.out BK373.out (by decide)) (fun _ hk => hk.2) (.int .i64 t365)) (fun _ hk => hk.2) (.slice Ao10 t366.length co10)) (fun _ hk => hk.2) (.slice Ao11 t369.length co11)) (fun _ h_ => h_.1))))) (below_size (by repeat (first | (with_reducible first | exact HB.out | apply below_alloc | apply pw_below_drewN | apply below_drew1 | refine below_set ?_ GE373.out) | exact HB.out)))); have n3_ := Aside0.mk (Kd.S_lower (Kd.S_new' ho1 (Kd.S_lt (by (with_reducible repeat (first | apply Kd.S_alloc | apply Kd.S_drewN | apply Kd.S_drew)); exact (Kd.S_mono (Kd.S_far (p := ⟨gb373, 2, none⟩) (Kd.S_far (p := ⟨gb373, 1, none⟩) (Kd.S_far (p := ⟨gb373, 0, none⟩) (Kd.S_types HO371.out BK373.out (by decide)) (fun _ hk => hk.2) (.int .i64 t365)) (fun _ hk => hk.2) (.slice Ao10 t366.length co10)) (fun _ hk => hk.2) (.slice Ao11 t369.length co11)) (fun _ h_ => h_.1))))) (below_size (by repeat (first | (with_reducible first | exact HB.out | apply below_alloc | apply pw_below_drewN | apply below_drew1 | refine below_set ?_ GE373.out) | exact HB.out)))); have n4_ := Aside0.mk (blk_below (g := gb373) (o := .cells #[.int .i64 t365, .slice Ao10 t366.length co10, .slice Ao11 t369.length co11] 25 (0, 0)) (by (with_reducible repeat (first | refine blk_drewN ?_ _ | refine blk_drew ?_ | refine blk_alloc ?_ _)); refine blk_put (cs := #[.int .i64 t365, .slice Ao10 t366.length co10, .slice none 0 0]) ?_ 2 _ rfl; (with_reducible repeat (first | refine blk_drewN ?_ _ | refine blk_drew ?_ | refine blk_alloc ?_ _)); refine blk_put (cs := #[.int .i64 t365, .slice none 0 0, .slice none 0 0]) ?_ 1 _ rfl; (with_reducible repeat (first | refine blk_drewN ?_ _ | refine blk_drew ?_ | refine blk_alloc ?_ _)); refine blk_put (cs := #[.int .i64 0, .slice none 0 0, .slice none 0 0]) ?_ 0 _ rfl; (with_reducible repeat (first | refine blk_drewN ?_ _ | refine blk_drew ?_ | refine blk_alloc ?_ _)); exact BK373.out) hb); have n5_ := Aside0.mk (below_step (by repeat (first | (with_reducible first | exact HB.out | apply below_alloc | apply pw_below_drewN | apply below_drew1 | refine below_set ?_ GE373.out) | exact HB.out)) hb); clear HO368; clear HO371; clear BK373; clear HB; have HO368 := n0_; have HO371 := n1_; have HO377 := n2_; have HO380 := n3_; have BK373 := n4_; have HB := n5_; clear n0_ n1_ n2_ n3_ n4_ n5_; (try clear hb); (try clear hb2); (try clear hk); (try clear hi); (try clear ho0); (try clear ho1)) | ((with_reducible refine gate_dst (N := 7) rfl ?_); refine box_event ?hg (N := 7) ?hd (cs := #[.int .i64 0, .slice none 0 0, .slice none 0 0]) (t := 25) ?hr ?_; (case hd => rfl); (case hg => rfl); (case hr => first | (go_simp; done) | (go_simp; rfl)); intro gb382 hg w13 hbox hb; have n0_ := Aside0.mk (Kd.R_below (by (with_reducible repeat (first | apply Kd.R_alloc | apply Kd.R_drewN | apply Kd.R_drew)); exact HO368.out) hb); have n1_ := Aside0.mk (Kd.S_below (by (with_reducible repeat (first | apply Kd.S_alloc | apply Kd.S_drewN | apply Kd.S_drew)); exact HO371.out) hb); have n2_ := Aside0.mk (Kd.R_below (by (with_reducible repeat (first | apply Kd.R_alloc | apply Kd.R_drewN | apply Kd.R_drew)); exact HO377.out) hb); have n3_ := Aside0.mk (Kd.S_below (by (with_reducible repeat (first | apply Kd.S_alloc | apply Kd.S_drewN | apply Kd.S_drew)); exact HO380.out) hb); have n4_ := Aside0.mk (blk_below (g := gb373) (o := .cells #[.int .i64 t365, .slice Ao10 t366.length co10, .slice Ao11 t369.length co11] 25 (0, 0)) (by (with_reducible repeat (first | refine blk_drewN ?_ _ | refine blk_drew ?_ | refine blk_alloc ?_ _)); exact BK373.out) hb); have n5_ := Aside0.mk (below_step (by repeat (first | (with_reducible first | exact HB.out | apply below_alloc | apply pw_below_drewN | apply below_drew1 | refine below_set ?_ GE373.out) | exact HB.out)) hb); have n6_ := Aside0.mk (hbox); have n7_ := Aside0.mk ((by rw [hg]; exact (below_size (by repeat (first | (with_reducible first | exact HB.out | apply below_alloc | apply pw_below_drewN | apply below_drew1 | refine below_set ?_ GE373.out) | exact HB.out))) : w.heap.size ≤ gb382)); have n8_ := Aside0.mk ((by rw [hg]; exact (below_size (by repeat (first | (with_reducible first | exact HB.out | apply below_alloc | apply pw_below_drewN | apply below_drew1 | refine below_set ?_ GE373.out) | exact HB.out))) : w.heap.size ≤ gb382)); have n9_ := Aside0.mk ((by rw [hg]; exact Nat.ne_of_lt (blk_lt (g := gb373) (o := .cells #[.int .i64 t365, .slice Ao10 t366.length co10, .slice Ao11 t369.length co11] 25 (0, 0)) (by (with_reducible repeat (first | refine blk_drewN ?_ _ | refine blk_drew ?_ | refine blk_alloc ?_ _)); exact BK373.out)) : gb373 ≠ gb382)); have n10_ := Aside0.mk ((by rw [hg]; exact Nat.ne_of_gt (blk_lt (g := gb373) (o := .cells #[.int .i64 t365, .slice Ao10 t366.length co10, .slice Ao11 t369.length co11] 25 (0, 0)) (by (with_reducible repeat (first | refine blk_drewN ?_ _ | refine blk_drew ?_ | refine blk_alloc ?_ _)); exact BK373.out)) : gb382 ≠ gb373)); clear HO368; clear HO371; clear HO377; clear HO380; clear BK373; clear HB; have HO368 := n0_; have HO371 := n1_; have HO377 := n2_; have HO380 := n3_; have BK373 := n4_; have HB := n5_; have BK382 := n6_; have GW382 := n7_; have GE382 := n8_; have NB373_382 := n9_; have NB382_373 := n10_; clear n0_ n1_ n2_ n3_ n4_ n5_ n6_ n7_ n8_ n9_ n10_; clear hb hbox hg; have hnb14 := NB382_373.out; have hnc14 := NB373_382.out; have hcz15_0 : w13.cell? ⟨gb382, 0, none⟩ = some (.int .i64 0) := (blk_cell BK382.out 0).trans rfl; have hcz15_1 : w13.cell? ⟨gb382, 1, none⟩ = some (.slice none 0 0) := (blk_cell BK382.out 1).trans rfl; have hcz15_2 : w13.cell? ⟨gb382, 2, none⟩ = some (.slice none 0 0) := (blk_cell BK382.out 2).trans rfl; have hfz15_0 := blk_frozen BK382.out 0; have hfz15_1 := blk_frozen BK382.out 1; have hfz15_2 := blk_frozen BK382.out 2; obtain ⟨Ao16, co16, eo16⟩ := Kd.R_slice HO377.out; subst eo16; obtain ⟨Ao17, co17, eo17⟩ := Kd.S_slice HO380.out; subst eo17))
    (try simp only [Act.put, List.setIfInBounds_toArray, List.set_cons_zero, List.set_cons_succ])
    go_cut [33] (fun v33 wc => ∃ (kq : Nat) (x33_5 : Bool), v33 = .bool x33_5 ∧ Aside0 (thermographlaw14_PlacementEven.j0 kq t372 t381 x33_5 t365 t366 t369 = some r) ∧ Aside0 (kq ≤ k) ∧ Aside0 (Kd.R (Kd.int .i64) 3 wc w.heap.size (fun k_ => some k_ ≠ ((.slice Ao16 t375.length co16) : Value).ownBlock) (.slice Ao10 t366.length co10) t366) ∧ Aside0 (Kd.S (Kd.slice 41 k41) 39 wc w.heap.size (fun k_ => some k_ ≠ ((.slice Ao17 t378.length co17) : Value).ownBlock) (.slice Ao11 t369.length co11) t369) ∧ Aside0 (Kd.R (Kd.int .i64) 3 wc w.heap.size (fun k_ => some k_ ≠ ((.slice Ao10 t366.length co10) : Value).ownBlock) (.slice Ao16 t375.length co16) t375) ∧ Aside0 (Kd.S (Kd.slice 41 k41) 39 wc w.heap.size (fun k_ => some k_ ≠ ((.slice Ao11 t369.length co11) : Value).ownBlock) (.slice Ao17 t378.length co17) t378) ∧ Aside0 (wc.heap[gb373]? = some (.cells #[.int .i64 t365, (.slice Ao10 t366.length co10), (.slice Ao11 t369.length co11)] 25 (0, 0))) ∧ Aside0 (wc.heap[gb382]? = some (.cells #[.int .i64 t374, (.slice Ao16 t375.length co16), (.slice Ao17 t378.length co17)] 25 (0, 0))) ∧ Aside0 (Below w.heap.size w wc))
    case first =>
      have H := HC6.out
      clear HC6
      by_cases c18 : t372 = t381
      · rw [if_pos c18] at H
        have c18b0 : (t372 == t381) = true := beq_iff_eq.mpr c18
        have c18b1 : (t372 != t381) = false := bne_eq_false_iff_eq.mpr c18
        clear c18
        (first | rw [c18b0] | (simp only [i64_w, i32_w]; rw [c18b0]) | skip)
        have H' := Aside0.mk H
        clear H
        go_wp2
        go_meet
        case rel => exact ⟨_, ((t372 != 0)), (by first | rfl | (simp; done) | (simp [*]; done)), H', ⟨by first | omega | exact Nat.le_refl _⟩, ⟨by (with_reducible repeat (first | apply Kd.R_alloc | apply Kd.R_drewN | apply Kd.R_drew)); exact Kd.R_mono (Kd.R_far (p := ⟨gb382, 2, none⟩) (Kd.R_far (p := ⟨gb382, 1, none⟩) (Kd.R_far (p := ⟨gb382, 0, none⟩) (Kd.R_types HO368.out BK382.out (by decide)) (fun _ hk => hk.2) (.int .i64 t374)) (fun _ hk => hk.2) (.slice Ao16 t375.length co16)) (fun _ hk => hk.2) (.slice Ao17 t378.length co17)) (fun _ hk => hk.1.2)⟩, ⟨by (with_reducible repeat (first | apply Kd.S_alloc | apply Kd.S_drewN | apply Kd.S_drew)); exact Kd.S_mono (Kd.S_far (p := ⟨gb382, 2, none⟩) (Kd.S_far (p := ⟨gb382, 1, none⟩) (Kd.S_far (p := ⟨gb382, 0, none⟩) (Kd.S_types HO371.out BK382.out (by decide)) (fun _ hk => hk.2) (.int .i64 t374)) (fun _ hk => hk.2) (.slice Ao16 t375.length co16)) (fun _ hk => hk.2) (.slice Ao17 t378.length co17)) (fun _ hk => hk.1.2)⟩, ⟨by (with_reducible repeat (first | apply Kd.R_alloc | apply Kd.R_drewN | apply Kd.R_drew)); exact Kd.R_mono (Kd.R_far (p := ⟨gb382, 2, none⟩) (Kd.R_far (p := ⟨gb382, 1, none⟩) (Kd.R_far (p := ⟨gb382, 0, none⟩) (Kd.R_types HO377.out BK382.out (by decide)) (fun _ hk => hk.2) (.int .i64 t374)) (fun _ hk => hk.2) (.slice Ao16 t375.length co16)) (fun _ hk => hk.2) (.slice Ao17 t378.length co17)) (fun _ hk => hk.1.2)⟩, ⟨by (with_reducible repeat (first | apply Kd.S_alloc | apply Kd.S_drewN | apply Kd.S_drew)); exact Kd.S_mono (Kd.S_far (p := ⟨gb382, 2, none⟩) (Kd.S_far (p := ⟨gb382, 1, none⟩) (Kd.S_far (p := ⟨gb382, 0, none⟩) (Kd.S_types HO380.out BK382.out (by decide)) (fun _ hk => hk.2) (.int .i64 t374)) (fun _ hk => hk.2) (.slice Ao16 t375.length co16)) (fun _ hk => hk.2) (.slice Ao17 t378.length co17)) (fun _ hk => hk.1.2)⟩, ⟨by (with_reducible repeat (first | refine blk_drewN ?_ _ | refine blk_drew ?_ | refine blk_alloc ?_ _)); refine blk_far ?_ NB373_382.out _; (with_reducible repeat (first | refine blk_drewN ?_ _ | refine blk_drew ?_ | refine blk_alloc ?_ _)); refine blk_far ?_ NB373_382.out _; (with_reducible repeat (first | refine blk_drewN ?_ _ | refine blk_drew ?_ | refine blk_alloc ?_ _)); refine blk_far ?_ NB373_382.out _; (with_reducible repeat (first | refine blk_drewN ?_ _ | refine blk_drew ?_ | refine blk_alloc ?_ _)); exact BK373.out⟩, ⟨by (with_reducible repeat (first | refine blk_drewN ?_ _ | refine blk_drew ?_ | refine blk_alloc ?_ _)); refine blk_put (cs := #[.int .i64 t374, .slice Ao16 t375.length co16, .slice none 0 0]) ?_ 2 _ rfl; (with_reducible repeat (first | refine blk_drewN ?_ _ | refine blk_drew ?_ | refine blk_alloc ?_ _)); refine blk_put (cs := #[.int .i64 t374, .slice none 0 0, .slice none 0 0]) ?_ 1 _ rfl; (with_reducible repeat (first | refine blk_drewN ?_ _ | refine blk_drew ?_ | refine blk_alloc ?_ _)); refine blk_put (cs := #[.int .i64 0, .slice none 0 0, .slice none 0 0]) ?_ 0 _ rfl; (with_reducible repeat (first | refine blk_drewN ?_ _ | refine blk_drew ?_ | refine blk_alloc ?_ _)); exact BK382.out⟩, ⟨by repeat (first | (with_reducible first | exact HB.out | apply below_alloc | apply pw_below_drewN | apply below_drew1 | refine below_set ?_ GE373.out | refine below_set ?_ GE382.out) | exact HB.out)⟩⟩
      · rw [if_neg c18] at H
        have c18b0 : (t372 == t381) = false := beq_eq_false_iff_ne.mpr c18
        have c18b1 : (t372 != t381) = true := bne_iff_ne.mpr c18
        (first | rw [c18b0] | (simp only [i64_w, i32_w]; rw [c18b0]) | skip)
        have H' := Aside0.mk H
        clear H
        go_wp2
        go_meet
        case rel => exact ⟨_, (true), (by first | rfl | (simp; done) | (simp [*]; done)), H', ⟨by first | omega | exact Nat.le_refl _⟩, ⟨by (with_reducible repeat (first | apply Kd.R_alloc | apply Kd.R_drewN | apply Kd.R_drew)); exact Kd.R_mono (Kd.R_far (p := ⟨gb382, 2, none⟩) (Kd.R_far (p := ⟨gb382, 1, none⟩) (Kd.R_far (p := ⟨gb382, 0, none⟩) (Kd.R_types HO368.out BK382.out (by decide)) (fun _ hk => hk.2) (.int .i64 t374)) (fun _ hk => hk.2) (.slice Ao16 t375.length co16)) (fun _ hk => hk.2) (.slice Ao17 t378.length co17)) (fun _ hk => hk.1.2)⟩, ⟨by (with_reducible repeat (first | apply Kd.S_alloc | apply Kd.S_drewN | apply Kd.S_drew)); exact Kd.S_mono (Kd.S_far (p := ⟨gb382, 2, none⟩) (Kd.S_far (p := ⟨gb382, 1, none⟩) (Kd.S_far (p := ⟨gb382, 0, none⟩) (Kd.S_types HO371.out BK382.out (by decide)) (fun _ hk => hk.2) (.int .i64 t374)) (fun _ hk => hk.2) (.slice Ao16 t375.length co16)) (fun _ hk => hk.2) (.slice Ao17 t378.length co17)) (fun _ hk => hk.1.2)⟩, ⟨by (with_reducible repeat (first | apply Kd.R_alloc | apply Kd.R_drewN | apply Kd.R_drew)); exact Kd.R_mono (Kd.R_far (p := ⟨gb382, 2, none⟩) (Kd.R_far (p := ⟨gb382, 1, none⟩) (Kd.R_far (p := ⟨gb382, 0, none⟩) (Kd.R_types HO377.out BK382.out (by decide)) (fun _ hk => hk.2) (.int .i64 t374)) (fun _ hk => hk.2) (.slice Ao16 t375.length co16)) (fun _ hk => hk.2) (.slice Ao17 t378.length co17)) (fun _ hk => hk.1.2)⟩, ⟨by (with_reducible repeat (first | apply Kd.S_alloc | apply Kd.S_drewN | apply Kd.S_drew)); exact Kd.S_mono (Kd.S_far (p := ⟨gb382, 2, none⟩) (Kd.S_far (p := ⟨gb382, 1, none⟩) (Kd.S_far (p := ⟨gb382, 0, none⟩) (Kd.S_types HO380.out BK382.out (by decide)) (fun _ hk => hk.2) (.int .i64 t374)) (fun _ hk => hk.2) (.slice Ao16 t375.length co16)) (fun _ hk => hk.2) (.slice Ao17 t378.length co17)) (fun _ hk => hk.1.2)⟩, ⟨by (with_reducible repeat (first | refine blk_drewN ?_ _ | refine blk_drew ?_ | refine blk_alloc ?_ _)); refine blk_far ?_ NB373_382.out _; (with_reducible repeat (first | refine blk_drewN ?_ _ | refine blk_drew ?_ | refine blk_alloc ?_ _)); refine blk_far ?_ NB373_382.out _; (with_reducible repeat (first | refine blk_drewN ?_ _ | refine blk_drew ?_ | refine blk_alloc ?_ _)); refine blk_far ?_ NB373_382.out _; (with_reducible repeat (first | refine blk_drewN ?_ _ | refine blk_drew ?_ | refine blk_alloc ?_ _)); exact BK373.out⟩, ⟨by (with_reducible repeat (first | refine blk_drewN ?_ _ | refine blk_drew ?_ | refine blk_alloc ?_ _)); refine blk_put (cs := #[.int .i64 t374, .slice Ao16 t375.length co16, .slice none 0 0]) ?_ 2 _ rfl; (with_reducible repeat (first | refine blk_drewN ?_ _ | refine blk_drew ?_ | refine blk_alloc ?_ _)); refine blk_put (cs := #[.int .i64 t374, .slice none 0 0, .slice none 0 0]) ?_ 1 _ rfl; (with_reducible repeat (first | refine blk_drewN ?_ _ | refine blk_drew ?_ | refine blk_alloc ?_ _)); refine blk_put (cs := #[.int .i64 0, .slice none 0 0, .slice none 0 0]) ?_ 0 _ rfl; (with_reducible repeat (first | refine blk_drewN ?_ _ | refine blk_drew ?_ | refine blk_alloc ?_ _)); exact BK382.out⟩, ⟨by repeat (first | (with_reducible first | exact HB.out | apply below_alloc | apply pw_below_drewN | apply below_drew1 | refine below_set ?_ GE373.out | refine below_set ?_ GE382.out) | exact HB.out)⟩⟩
    case rest =>
      clear HC6
      try clear c1
      try clear p2
      try clear c3
      try clear c3b0
      try clear c3b1
      try clear c11
      try clear c12
      try clear c14
      try clear c18
      try clear c18b0
      try clear c18b1
      try clear hcz15_0
      try clear hcz15_1
      try clear hcz15_2
      try clear hcz9_0
      try clear hcz9_1
      try clear hcz9_2
      try clear hfz15_0
      try clear hfz15_1
      try clear hfz15_2
      try clear hfz9_0
      try clear hfz9_1
      try clear hfz9_2
      obtain ⟨kq, x33_5, rfl, HA, HJ5, HO_374001, HO_374002, HO_383001, HO_383002, BK373, BK382, HB⟩ := hcut
      cases kq with
      | zero => exact absurd HA.out (by simp [thermographlaw14_PlacementEven.j0])
      | succ kj5 =>
        have H := HA.out
        clear HA
        simp only [thermographlaw14_PlacementEven.j0] at H
        by_cases c19 : x33_5 = true
        · subst c19
          have H1 : (some (t372 == t381)) = some r := by rw [if_pos rfl] at H; exact H
          clear H
          have H := H1
          clear H1
          obtain rfl := Option.some.inj H
          go_wp2
          go_ret
          exact ⟨by first | rfl | (simp [errW_none, errW_some] <;> rfl) | (simp [*, errW_none, errW_some] <;> rfl), by repeat (first | (with_reducible first | exact HB.out | apply below_alloc | apply pw_below_drewN | apply below_drew1 | refine below_set ?_ GE373.out | refine below_set ?_ GE382.out) | exact HB.out)⟩
        · replace c19 := Bool.eq_false_iff.mpr c19
          subst c19
          have H1 : (thermographlaw14_PlacementEven.l0 kj5 8 0 0 t365 t366 t369) = some r := by rw [if_neg (show ¬ (false = true) by decide)] at H; exact H
          clear H
          have H := H1
          clear H1
          have H' := Aside0.mk H
          clear H
          go_wp2
          go_loopg [9, 10, 11] kj5 (fun kq v9 v10 v11 w' => ∃ (x9_2 : Int) (x10_2 : Int) (x11_2 : Int), v9 = .int .i64 x9_2 ∧ v10 = .int .i64 x10_2 ∧ v11 = .int .i64 x11_2 ∧ Aside0 (thermographlaw14_PlacementEven.l0 kq x9_2 x10_2 x11_2 t365 t366 t369 = some r) ∧ Aside0 (kq ≤ kj5) ∧ Aside0 (Kd.R (Kd.int .i64) 3 w' w.heap.size (fun k_ => some k_ ≠ ((.slice Ao16 t375.length co16) : Value).ownBlock) (.slice Ao10 t366.length co10) t366) ∧ Aside0 (Kd.S (Kd.slice 41 k41) 39 w' w.heap.size (fun k_ => some k_ ≠ ((.slice Ao17 t378.length co17) : Value).ownBlock) (.slice Ao11 t369.length co11) t369) ∧ Aside0 (Kd.R (Kd.int .i64) 3 w' w.heap.size (fun k_ => some k_ ≠ ((.slice Ao10 t366.length co10) : Value).ownBlock) (.slice Ao16 t375.length co16) t375) ∧ Aside0 (Kd.S (Kd.slice 41 k41) 39 w' w.heap.size (fun k_ => some k_ ≠ ((.slice Ao11 t369.length co11) : Value).ownBlock) (.slice Ao17 t378.length co17) t378) ∧ Aside0 (w'.heap[gb373]? = some (.cells #[.int .i64 t365, (.slice Ao10 t366.length co10), (.slice Ao11 t369.length co11)] 25 (0, 0))) ∧ Aside0 (w'.heap[gb382]? = some (.cells #[.int .i64 t374, (.slice Ao16 t375.length co16), (.slice Ao17 t378.length co17)] 25 (0, 0))) ∧ Aside0 (Below w.heap.size w w'))
          case atStart => exact ⟨(8), (0), (0), (by first | rfl | (simp; done) | (simp [*]; done)), (by first | rfl | (simp; done) | (simp [*]; done)), (by first | rfl | (simp; done) | (simp [*]; done)), H', ⟨Nat.le_refl _⟩, ⟨by (with_reducible repeat (first | apply Kd.R_alloc | apply Kd.R_drewN | apply Kd.R_drew)); exact HO_374001.out⟩, ⟨by (with_reducible repeat (first | apply Kd.S_alloc | apply Kd.S_drewN | apply Kd.S_drew)); exact HO_374002.out⟩, ⟨by (with_reducible repeat (first | apply Kd.R_alloc | apply Kd.R_drewN | apply Kd.R_drew)); exact HO_383001.out⟩, ⟨by (with_reducible repeat (first | apply Kd.S_alloc | apply Kd.S_drewN | apply Kd.S_drew)); exact HO_383002.out⟩, ⟨by (with_reducible repeat (first | refine blk_drewN ?_ _ | refine blk_drew ?_ | refine blk_alloc ?_ _)); exact BK373.out⟩, ⟨by (with_reducible repeat (first | refine blk_drewN ?_ _ | refine blk_drew ?_ | refine blk_alloc ?_ _)); exact BK382.out⟩, ⟨by repeat (first | (with_reducible first | exact HB.out | apply below_alloc | apply pw_below_drewN | apply below_drew1 | refine below_set ?_ GE373.out | refine below_set ?_ GE382.out) | exact HB.out)⟩⟩
          case round =>
            clear H'
            try clear c1
            try clear p2
            try clear c3
            try clear c3b0
            try clear c3b1
            try clear c11
            try clear c12
            try clear c14
            try clear c18
            try clear c18b0
            try clear c18b1
            try clear c19
            try clear hcz15_0
            try clear hcz15_1
            try clear hcz15_2
            try clear hcz9_0
            try clear hcz9_1
            try clear hcz9_2
            try clear hfz15_0
            try clear hfz15_1
            try clear hfz15_2
            try clear hfz9_0
            try clear hfz9_1
            try clear hfz9_2
            try clear p2
            obtain ⟨x9_2, x10_2, x11_2, rfl, rfl, rfl, HA, HK2, HO_374001, HO_374002, HO_383001, HO_383002, BK373, BK382, HB⟩ := hrel
            cases gk with
            | zero => exact absurd HA.out (by simp [thermographlaw14_PlacementEven.l0])
            | succ k2 =>
              have H := HA.out
              clear HA
              simp only [thermographlaw14_PlacementEven.l0] at H
              by_cases c20 : x11_2 < (t366.length : Int)
              · rw [if_pos c20] at H
                have c20b0 : decide (x11_2 < (t366.length : Int)) = true := decide_eq_true c20
                clear c20
                by_cases c21 : 0 ≤ x11_2
                · rw [if_pos c21] at H
                  have c21b0 : decide (0 ≤ x11_2) = true := decide_eq_true c21
                  clear c21
                  replace H := Option.bind_eq_some_iff.mp H
                  obtain ⟨t384, A220, H⟩ := H
                  replace H : ((placement_Load.f k2 t365 t366 t369 (rd t366 x11_2)).bind fun t386 => (thermographlaw14_PlacementEven.l0 k2 (mn x9_2 t384) (mx x10_2 t386) (wrap64 (x11_2 + 1)) t365 t366 t369)) = some r := H
                  have A22 := Aside0.mk A220
                  clear A220
                  obtain ⟨ji23, hji23⟩ : ∃ j_ : Int, (mn x9_2 t384) = j_ := ⟨_, rfl⟩
                  replace H : ((placement_Load.f k2 t365 t366 t369 (rd t366 x11_2)).bind fun t386 => (thermographlaw14_PlacementEven.l0 k2 ji23 (mx x10_2 t386) (wrap64 (x11_2 + 1)) t365 t366 t369)) = some r := by first | (rw [hji23] at H; exact H) | (simp only [hji23] at H ⊢; exact H)
                  (try rw [hji23] at A22)
                  have hji23_ : (if t384 < x9_2 then t384 else x9_2) = ji23 := hji23
                  replace H := Option.bind_eq_some_iff.mp H
                  obtain ⟨t386, A240, H⟩ := H
                  replace H : (thermographlaw14_PlacementEven.l0 k2 ji23 (mx x10_2 t386) (wrap64 (x11_2 + 1)) t365 t366 t369) = some r := H
                  have A24 := Aside0.mk A240
                  clear A240
                  obtain ⟨ji25, hji25⟩ : ∃ j_ : Int, (mx x10_2 t386) = j_ := ⟨_, rfl⟩
                  replace H : (thermographlaw14_PlacementEven.l0 k2 ji23 ji25 (wrap64 (x11_2 + 1)) t365 t366 t369) = some r := by first | (rw [hji25] at H; exact H) | (simp only [hji25] at H ⊢; exact H)
                  (try rw [hji25] at A22)
                  (try rw [hji25] at A24)
                  have hji25_ : (if x10_2 < t386 then t386 else x10_2) = ji25 := hji25
                  have H' := Aside0.mk H
                  clear H
                  have hnb26 := NB373_382.out
                  have hnc26 := NB382_373.out
                  have hcz27_0 : wr.cell? ⟨gb373, 0, none⟩ = some (.int .i64 t365) := (blk_cell BK373.out 0).trans rfl
                  have hcz27_1 : wr.cell? ⟨gb373, 1, none⟩ = some (.slice Ao10 t366.length co10) := (blk_cell BK373.out 1).trans rfl
                  have hcz27_2 : wr.cell? ⟨gb373, 2, none⟩ = some (.slice Ao11 t369.length co11) := (blk_cell BK373.out 2).trans rfl
                  have hfz27_0 := blk_frozen BK373.out 0
                  have hfz27_1 := blk_frozen BK373.out 1
                  have hfz27_2 := blk_frozen BK373.out 2
                  try go_wp2
                  have n0_ := Aside0.mk (Kd.R_drew HO_374001.out)
                  have n1_ := Aside0.mk (Kd.S_drew HO_374002.out)
                  have n2_ := Aside0.mk (Kd.R_drew HO_383001.out)
                  have n3_ := Aside0.mk (Kd.S_drew HO_383002.out)
                  have n4_ := Aside0.mk (blk_drew BK373.out)
                  have n5_ := Aside0.mk (blk_drew BK382.out)
                  have n6_ := Aside0.mk (below_drew1 HB.out)
                  clear HO_374001
                  clear HO_374002
                  clear HO_383001
                  clear HO_383002
                  clear BK373
                  clear BK382
                  clear HB
                  have HO_374001 := n0_
                  have HO_374002 := n1_
                  have HO_383001 := n2_
                  have HO_383002 := n3_
                  have BK373 := n4_
                  have BK382 := n5_
                  have HB := n6_
                  clear n0_ n1_ n2_ n3_ n4_ n5_ n6_
                  have p383 : 0 ≤ (x11_2 : Int) := of_decide_eq_true (by first | (with_reducible assumption) | assumption)
                  have q383 : x11_2 < (t366.length : Int) := of_decide_eq_true (by first | (with_reducible assumption) | assumption)
                  obtain ⟨ad383, e383, hx383_0⟩ := Kd.at_int (Kd.R_reads' HO_374001.out).2.2 x11_2 p383 q383
                  cases e383
                  replace p383 := eq_true p383
                  replace q383 := eq_true q383
                  refine start_ (n := 10) (S := fun w' => w'.cell? ⟨gb373, 0, none⟩ = some (.int .i64 t365) ∧ w'.cell? ⟨gb373, 1, none⟩ = some (.slice (some ad383) t366.length co10) ∧ w'.cell? ⟨gb373, 2, none⟩ = some (.slice Ao11 t369.length co11) ∧ w'.cell? (ad383.add (x11_2).toNat) = some (.int .i64 (rd t366 x11_2))) (ds := []) #[false, false, false, false, false, false, false, false, false, false] (by kernel_rfl) rfl rfl ⟨(blk_cell BK373.out 0).trans rfl, (blk_cell BK373.out 1).trans rfl, (blk_cell BK373.out 2).trans rfl, hx383_0⟩ (fun hHeld => ?_); refine with_tabW thermographlaw14_PlacementEven.tab12 thermographlaw14_PlacementEven.bits12 (fun HT_ HW_ => ?_)
                  generalize wr.drew = w28 at HO_374001 HO_374002 HO_383001 HO_383002 BK373 BK382 HB hx383_0 hHeld ⊢
                  refine pure_ (i := 0) (N := some 44) (v := ?_) (a' := ?_) #[true, false, false, false, false, false, false, false, false, false] rfl rfl (any_of HT_.out (by kernel_rfl)) (fun _ _ _ h => h) (Or.inl ⟨by rfl, ?_⟩) ?_ ?_
                  rotate_left
                  · intro w'
                    go_simp
                    with_reducible rfl
                  rotate_left
                  · simp only [Act.put, List.setIfInBounds_toArray, List.set_cons_zero, List.set_cons_succ, i64_w, i32_w]
                    rfl
                  refine pure_ (i := 2) (N := some 46) (v := ?_) (a' := ?_) #[true, false, true, false, false, false, false, false, false, false] rfl rfl (any_of HT_.out (by kernel_rfl)) (fun _ _ _ h => h) (Or.inl ⟨by rfl, ?_⟩) ?_ ?_
                  rotate_left
                  · intro w'
                    go_simp
                    with_reducible rfl
                  rotate_left
                  · simp only [Act.put, List.setIfInBounds_toArray, List.set_cons_zero, List.set_cons_succ, i64_w, i32_w]
                    rfl
                  refine pure_ (i := 4) (N := some 48) (v := ?_) (a' := ?_) #[true, false, true, false, true, false, false, false, false, false] rfl rfl (any_of HT_.out (by kernel_rfl)) (fun _ _ _ h => h) (Or.inl ⟨by rfl, ?_⟩) ?_ ?_
                  rotate_left
                  · intro w'
                    go_simp
                    with_reducible rfl
                  rotate_left
                  · simp only [Act.put, List.setIfInBounds_toArray, List.set_cons_zero, List.set_cons_succ, i64_w, i32_w]
                    rfl
                  refine take_ (i := 1) (N := some 45) (v := ?_) (a' := ?_) #[true, true, true, false, true, false, false, false, false, false] rfl rfl (take_ofW HT_.out HW_.out (by kernel_rfl)) (fun _ _ _ h => h) (Or.inl ⟨by rfl, ?_⟩) hHeld ?_ ?_
                  rotate_left
                  · rintro w' ⟨s0, s1, s2, s3⟩
                    go_simp
                    with_reducible rfl
                  rotate_left
                  · simp only [Act.put, List.setIfInBounds_toArray, List.set_cons_zero, List.set_cons_succ, i64_w, i32_w]
                    rfl
                  refine take_ (i := 3) (N := some 47) (v := ?_) (a' := ?_) #[true, true, true, true, true, false, false, false, false, false] rfl rfl (take_ofW HT_.out HW_.out (by kernel_rfl)) (fun _ _ _ h => h) (Or.inl ⟨by rfl, ?_⟩) hHeld ?_ ?_
                  rotate_left
                  · rintro w' ⟨s0, s1, s2, s3⟩
                    go_simp
                    with_reducible rfl
                  rotate_left
                  · simp only [Act.put, List.setIfInBounds_toArray, List.set_cons_zero, List.set_cons_succ, i64_w, i32_w]
                    rfl
                  refine pure_ (i := 5) (N := some 49) (v := ?_) (a' := ?_) #[true, true, true, true, true, true, false, false, false, false] rfl rfl (any_of HT_.out (by kernel_rfl)) (fun _ _ _ h => h) (Or.inl ⟨by rfl, ?_⟩) ?_ ?_
                  rotate_left
                  · intro w'
                    go_simp
                    with_reducible rfl
                  rotate_left
                  · simp only [Act.put, List.setIfInBounds_toArray, List.set_cons_zero, List.set_cons_succ, i64_w, i32_w]
                    rfl
                  refine take_ (i := 6) (N := some 50) (v := ?_) (a' := ?_) #[true, true, true, true, true, true, true, false, false, false] rfl rfl (take_ofW HT_.out HW_.out (by kernel_rfl)) (fun _ _ _ h => h) (Or.inl ⟨by rfl, ?_⟩) hHeld ?_ ?_
                  rotate_left
                  · rintro w' ⟨s0, s1, s2, s3⟩
                    go_simp
                    with_reducible rfl
                  rotate_left
                  · simp only [Act.put, List.setIfInBounds_toArray, List.set_cons_zero, List.set_cons_succ, i64_w, i32_w]
                    rfl
                  refine one_ (i := 7) (N := some 51) #[true, true, true, true, true, true, true, true, false, false] rfl rfl (one_of HT_.out (by kernel_rfl)) (by decide) (fun K hK => ?_)
                  refine goes_ Try.func13 (by kernel_rfl) rfl #[.agg #[.int .i64 t365, .slice (some ad383) t366.length co10, .slice Ao11 t369.length co11], .int .i64 (rd t366 x11_2)] (by rfl) rfl rfl (by (try simp only [List.map_toArray, List.map_cons, List.map_nil]); first | done | rfl | (simp only [List.length_drop, List.length_take]; rfl)) ?_
                  with_reducible refine (placement_Load.calls k2 t365 _ _ t366 _ _ t369 (rd t366 x11_2) t384 _ ?side1 ?side2 ?side3 ?side4 A22.out).mono ?_
                  (case side1 => repeat (first | exact (Kd.R_reads' HO_374001.out).2.2 | (with_reducible refine Kd.C_alloc ?_ _) | (with_reducible refine Kd.C_drewN ?_ _) | (with_reducible refine Kd.C_drew ?_)))
                  (case side2 => exact (Kd.R_reads' HO_374001.out).2.1)
                  (case side3 => repeat (first | exact (Kd.S_reads' HO_374002.out).2.2 | (with_reducible refine Kd.C_alloc ?_ _) | (with_reducible refine Kd.C_drewN ?_ _) | (with_reducible refine Kd.C_drew ?_)))
                  (case side4 => exact (Kd.S_reads' HO_374002.out).2.1)
                  rintro e w29 ⟨rfl, hb⟩
                  have HS3_ := (hb.cell (World.block_lt_of_cell? _ _ (hHeld.2.2.2))).trans (hHeld.2.2.2)
                  refine ⟨_, rfl, ?_⟩
                  have n0_ := Aside0.mk (Kd.R_below (by (with_reducible repeat (first | apply Kd.R_alloc | apply Kd.R_drewN | apply Kd.R_drew)); exact HO_374001.out) hb)
                  have n1_ := Aside0.mk (Kd.S_below (by (with_reducible repeat (first | apply Kd.S_alloc | apply Kd.S_drewN | apply Kd.S_drew)); exact HO_374002.out) hb)
                  have n2_ := Aside0.mk (Kd.R_below (by (with_reducible repeat (first | apply Kd.R_alloc | apply Kd.R_drewN | apply Kd.R_drew)); exact HO_383001.out) hb)
                  have n3_ := Aside0.mk (Kd.S_below (by (with_reducible repeat (first | apply Kd.S_alloc | apply Kd.S_drewN | apply Kd.S_drew)); exact HO_383002.out) hb)
                  have n4_ := Aside0.mk (blk_below (g := gb373) (o := .cells #[.int .i64 t365, .slice (some ad383) t366.length co10, .slice Ao11 t369.length co11] 25 (0, 0)) (by (with_reducible repeat (first | refine blk_drewN ?_ _ | refine blk_drew ?_ | refine blk_alloc ?_ _)); exact BK373.out) hb)
                  have n5_ := Aside0.mk (blk_below (g := gb382) (o := .cells #[.int .i64 t374, .slice Ao16 t375.length co16, .slice Ao17 t378.length co17] 25 (0, 0)) (by (with_reducible repeat (first | refine blk_drewN ?_ _ | refine blk_drew ?_ | refine blk_alloc ?_ _)); exact BK382.out) hb)
                  have n6_ := Aside0.mk (below_step (by repeat (first | (with_reducible first | exact HB.out | apply below_alloc | apply pw_below_drewN | apply below_drew1 | refine below_set ?_ GE373.out | refine below_set ?_ GE382.out) | exact HB.out)) hb)
                  clear HO_374001
                  clear HO_374002
                  clear HO_383001
                  clear HO_383002
                  clear BK373
                  clear BK382
                  clear HB
                  have HO_374001 := n0_
                  have HO_374002 := n1_
                  have HO_383001 := n2_
                  have HO_383002 := n3_
                  have BK373 := n4_
                  have BK382 := n5_
                  have HB := n6_
                  clear n0_ n1_ n2_ n3_ n4_ n5_ n6_
                  (try clear hb)
                  (try clear hb2)
                  (try clear hk)
                  (try clear hi)
                  refine hK.out _ _ ⟨(blk_cell BK373.out 0).trans rfl, (blk_cell BK373.out 1).trans rfl, (blk_cell BK373.out 2).trans rfl, HS3_⟩ (fun hHeld => ?_)
                  clear hK K
                  refine norm_ (a' := ?_) ?_ ?_
                  rotate_left
                  · show Act.put _ (some 51) _ = _
                    simp only [Act.put, List.setIfInBounds_toArray, List.set_cons_zero, List.set_cons_succ, i64_w, i32_w]
                    rfl
                  refine pure_ (i := 8) (N := some 52) (v := ?_) (a' := ?_) #[true, true, true, true, true, true, true, true, true, false] rfl rfl (any_of HT_.out (by kernel_rfl)) (fun _ _ _ h => h) (Or.inl ⟨by rfl, ?_⟩) ?_ ?_
                  rotate_left
                  · intro w'
                    go_simp
                    with_reducible rfl
                  rotate_left
                  · simp only [Act.put, List.setIfInBounds_toArray, List.set_cons_zero, List.set_cons_succ, i64_w, i32_w]
                    rfl
                  refine pure_ (i := 9) (N := some 9) (v := ?_) (a' := ?_) #[true, true, true, true, true, true, true, true, true, true] rfl rfl (any_of HT_.out (by kernel_rfl)) (fun _ _ _ h => h) (Or.inl ⟨by rfl, ?_⟩) ?_ ?_
                  rotate_left
                  · intro w'
                    go_simp
                    with_reducible rfl
                  rotate_left
                  · simp only [Act.put, List.setIfInBounds_toArray, List.set_cons_zero, List.set_cons_succ, i64_w, i32_w]
                    rfl
                  refine done_ (done_of HT_.out (by kernel_rfl)) ?_
                  try go_wp2
                  have n0_ := Aside0.mk (Kd.R_drew HO_374001.out)
                  have n1_ := Aside0.mk (Kd.S_drew HO_374002.out)
                  have n2_ := Aside0.mk (Kd.R_drew HO_383001.out)
                  have n3_ := Aside0.mk (Kd.S_drew HO_383002.out)
                  have n4_ := Aside0.mk (blk_drew BK373.out)
                  have n5_ := Aside0.mk (blk_drew BK382.out)
                  have n6_ := Aside0.mk (below_drew1 HB.out)
                  clear HO_374001
                  clear HO_374002
                  clear HO_383001
                  clear HO_383002
                  clear BK373
                  clear BK382
                  clear HB
                  have HO_374001 := n0_
                  have HO_374002 := n1_
                  have HO_383001 := n2_
                  have HO_383002 := n3_
                  have BK373 := n4_
                  have BK382 := n5_
                  have HB := n6_
                  clear n0_ n1_ n2_ n3_ n4_ n5_ n6_
                  have p385 : 0 ≤ (x11_2 : Int) := of_decide_eq_true (by first | (with_reducible assumption) | assumption)
                  have q385 : x11_2 < (t366.length : Int) := of_decide_eq_true (by first | (with_reducible assumption) | assumption)
                  obtain ⟨ad385, e385, hx385_0⟩ := Kd.at_int (Kd.R_reads' HO_374001.out).2.2 x11_2 p385 q385
                  obtain rfl : ad383 = ad385 := (by injection e385)
                  replace p385 := eq_true p385
                  replace q385 := eq_true q385
                  refine start_ (n := 10) (S := fun w' => w'.cell? ⟨gb373, 0, none⟩ = some (.int .i64 t365) ∧ w'.cell? ⟨gb373, 1, none⟩ = some (.slice (some ad383) t366.length co10) ∧ w'.cell? ⟨gb373, 2, none⟩ = some (.slice Ao11 t369.length co11) ∧ w'.cell? (ad383.add (x11_2).toNat) = some (.int .i64 (rd t366 x11_2))) (ds := []) #[false, false, false, false, false, false, false, false, false, false] (by kernel_rfl) rfl rfl ⟨(blk_cell BK373.out 0).trans rfl, (blk_cell BK373.out 1).trans rfl, (blk_cell BK373.out 2).trans rfl, hx385_0⟩ (fun hHeld => ?_); refine with_tabW thermographlaw14_PlacementEven.tab13 thermographlaw14_PlacementEven.bits13 (fun HT_ HW_ => ?_)
                  generalize w29.drew = w30 at HO_374001 HO_374002 HO_383001 HO_383002 BK373 BK382 HB hx385_0 hHeld ⊢
                  refine pure_ (i := 0) (N := some 53) (v := ?_) (a' := ?_) #[true, false, false, false, false, false, false, false, false, false] rfl rfl (any_of HT_.out (by kernel_rfl)) (fun _ _ _ h => h) (Or.inl ⟨by rfl, ?_⟩) ?_ ?_
                  rotate_left
                  · intro w'
                    go_simp
                    with_reducible rfl
                  rotate_left
                  · simp only [Act.put, List.setIfInBounds_toArray, List.set_cons_zero, List.set_cons_succ, i64_w, i32_w]
                    rfl
                  refine pure_ (i := 2) (N := some 55) (v := ?_) (a' := ?_) #[true, false, true, false, false, false, false, false, false, false] rfl rfl (any_of HT_.out (by kernel_rfl)) (fun _ _ _ h => h) (Or.inl ⟨by rfl, ?_⟩) ?_ ?_
                  rotate_left
                  · intro w'
                    go_simp
                    with_reducible rfl
                  rotate_left
                  · simp only [Act.put, List.setIfInBounds_toArray, List.set_cons_zero, List.set_cons_succ, i64_w, i32_w]
                    rfl
                  refine pure_ (i := 4) (N := some 57) (v := ?_) (a' := ?_) #[true, false, true, false, true, false, false, false, false, false] rfl rfl (any_of HT_.out (by kernel_rfl)) (fun _ _ _ h => h) (Or.inl ⟨by rfl, ?_⟩) ?_ ?_
                  rotate_left
                  · intro w'
                    go_simp
                    with_reducible rfl
                  rotate_left
                  · simp only [Act.put, List.setIfInBounds_toArray, List.set_cons_zero, List.set_cons_succ, i64_w, i32_w]
                    rfl
                  refine take_ (i := 1) (N := some 54) (v := ?_) (a' := ?_) #[true, true, true, false, true, false, false, false, false, false] rfl rfl (take_ofW HT_.out HW_.out (by kernel_rfl)) (fun _ _ _ h => h) (Or.inl ⟨by rfl, ?_⟩) hHeld ?_ ?_
                  rotate_left
                  · rintro w' ⟨s0, s1, s2, s3⟩
                    go_simp
                    with_reducible rfl
                  rotate_left
                  · simp only [Act.put, List.setIfInBounds_toArray, List.set_cons_zero, List.set_cons_succ, i64_w, i32_w]
                    rfl
                  refine take_ (i := 3) (N := some 56) (v := ?_) (a' := ?_) #[true, true, true, true, true, false, false, false, false, false] rfl rfl (take_ofW HT_.out HW_.out (by kernel_rfl)) (fun _ _ _ h => h) (Or.inl ⟨by rfl, ?_⟩) hHeld ?_ ?_
                  rotate_left
                  · rintro w' ⟨s0, s1, s2, s3⟩
                    go_simp
                    with_reducible rfl
                  rotate_left
                  · simp only [Act.put, List.setIfInBounds_toArray, List.set_cons_zero, List.set_cons_succ, i64_w, i32_w]
                    rfl
                  refine pure_ (i := 5) (N := some 58) (v := ?_) (a' := ?_) #[true, true, true, true, true, true, false, false, false, false] rfl rfl (any_of HT_.out (by kernel_rfl)) (fun _ _ _ h => h) (Or.inl ⟨by rfl, ?_⟩) ?_ ?_
                  rotate_left
                  · intro w'
                    go_simp
                    with_reducible rfl
                  rotate_left
                  · simp only [Act.put, List.setIfInBounds_toArray, List.set_cons_zero, List.set_cons_succ, i64_w, i32_w]
                    rfl
                  refine take_ (i := 6) (N := some 59) (v := ?_) (a' := ?_) #[true, true, true, true, true, true, true, false, false, false] rfl rfl (take_ofW HT_.out HW_.out (by kernel_rfl)) (fun _ _ _ h => h) (Or.inl ⟨by rfl, ?_⟩) hHeld ?_ ?_
                  rotate_left
                  · rintro w' ⟨s0, s1, s2, s3⟩
                    go_simp
                    with_reducible rfl
                  rotate_left
                  · simp only [Act.put, List.setIfInBounds_toArray, List.set_cons_zero, List.set_cons_succ, i64_w, i32_w]
                    rfl
                  refine one_ (i := 7) (N := some 60) #[true, true, true, true, true, true, true, true, false, false] rfl rfl (one_of HT_.out (by kernel_rfl)) (by decide) (fun K hK => ?_)
                  refine goes_ Try.func13 (by kernel_rfl) rfl #[.agg #[.int .i64 t365, .slice (some ad383) t366.length co10, .slice Ao11 t369.length co11], .int .i64 (rd t366 x11_2)] (by rfl) rfl rfl (by (try simp only [List.map_toArray, List.map_cons, List.map_nil]); first | done | rfl | (simp only [List.length_drop, List.length_take]; rfl)) ?_
                  with_reducible refine (placement_Load.calls k2 t365 _ _ t366 _ _ t369 (rd t366 x11_2) t386 _ ?side1 ?side2 ?side3 ?side4 A24.out).mono ?_
                  (case side1 => repeat (first | exact (Kd.R_reads' HO_374001.out).2.2 | (with_reducible refine Kd.C_alloc ?_ _) | (with_reducible refine Kd.C_drewN ?_ _) | (with_reducible refine Kd.C_drew ?_)))
                  (case side2 => exact (Kd.R_reads' HO_374001.out).2.1)
                  (case side3 => repeat (first | exact (Kd.S_reads' HO_374002.out).2.2 | (with_reducible refine Kd.C_alloc ?_ _) | (with_reducible refine Kd.C_drewN ?_ _) | (with_reducible refine Kd.C_drew ?_)))
                  (case side4 => exact (Kd.S_reads' HO_374002.out).2.1)
                  rintro e w31 ⟨rfl, hb⟩
                  have HS3_ := (hb.cell (World.block_lt_of_cell? _ _ (hHeld.2.2.2))).trans (hHeld.2.2.2)
                  refine ⟨_, rfl, ?_⟩
                  have n0_ := Aside0.mk (Kd.R_below (by (with_reducible repeat (first | apply Kd.R_alloc | apply Kd.R_drewN | apply Kd.R_drew)); exact HO_374001.out) hb)
                  have n1_ := Aside0.mk (Kd.S_below (by (with_reducible repeat (first | apply Kd.S_alloc | apply Kd.S_drewN | apply Kd.S_drew)); exact HO_374002.out) hb)
                  have n2_ := Aside0.mk (Kd.R_below (by (with_reducible repeat (first | apply Kd.R_alloc | apply Kd.R_drewN | apply Kd.R_drew)); exact HO_383001.out) hb)
                  have n3_ := Aside0.mk (Kd.S_below (by (with_reducible repeat (first | apply Kd.S_alloc | apply Kd.S_drewN | apply Kd.S_drew)); exact HO_383002.out) hb)
                  have n4_ := Aside0.mk (blk_below (g := gb373) (o := .cells #[.int .i64 t365, .slice (some ad383) t366.length co10, .slice Ao11 t369.length co11] 25 (0, 0)) (by (with_reducible repeat (first | refine blk_drewN ?_ _ | refine blk_drew ?_ | refine blk_alloc ?_ _)); exact BK373.out) hb)
                  have n5_ := Aside0.mk (blk_below (g := gb382) (o := .cells #[.int .i64 t374, .slice Ao16 t375.length co16, .slice Ao17 t378.length co17] 25 (0, 0)) (by (with_reducible repeat (first | refine blk_drewN ?_ _ | refine blk_drew ?_ | refine blk_alloc ?_ _)); exact BK382.out) hb)
                  have n6_ := Aside0.mk (below_step (by repeat (first | (with_reducible first | exact HB.out | apply below_alloc | apply pw_below_drewN | apply below_drew1 | refine below_set ?_ GE373.out | refine below_set ?_ GE382.out) | exact HB.out)) hb)
                  clear HO_374001
                  clear HO_374002
                  clear HO_383001
                  clear HO_383002
                  clear BK373
                  clear BK382
                  clear HB
                  have HO_374001 := n0_
                  have HO_374002 := n1_
                  have HO_383001 := n2_
                  have HO_383002 := n3_
                  have BK373 := n4_
                  have BK382 := n5_
                  have HB := n6_
                  clear n0_ n1_ n2_ n3_ n4_ n5_ n6_
                  (try clear hb)
                  (try clear hb2)
                  (try clear hk)
                  (try clear hi)
                  refine hK.out _ _ ⟨(blk_cell BK373.out 0).trans rfl, (blk_cell BK373.out 1).trans rfl, (blk_cell BK373.out 2).trans rfl, HS3_⟩ (fun hHeld => ?_)
                  clear hK K
                  refine norm_ (a' := ?_) ?_ ?_
                  rotate_left
                  · show Act.put _ (some 60) _ = _
                    simp only [Act.put, List.setIfInBounds_toArray, List.set_cons_zero, List.set_cons_succ, i64_w, i32_w]
                    rfl
                  refine pure_ (i := 8) (N := some 61) (v := ?_) (a' := ?_) #[true, true, true, true, true, true, true, true, true, false] rfl rfl (any_of HT_.out (by kernel_rfl)) (fun _ _ _ h => h) (Or.inl ⟨by rfl, ?_⟩) ?_ ?_
                  rotate_left
                  · intro w'
                    go_simp
                    with_reducible rfl
                  rotate_left
                  · simp only [Act.put, List.setIfInBounds_toArray, List.set_cons_zero, List.set_cons_succ, i64_w, i32_w]
                    rfl
                  refine pure_ (i := 9) (N := some 10) (v := ?_) (a' := ?_) #[true, true, true, true, true, true, true, true, true, true] rfl rfl (any_of HT_.out (by kernel_rfl)) (fun _ _ _ h => h) (Or.inl ⟨by rfl, ?_⟩) ?_ ?_
                  rotate_left
                  · intro w'
                    go_simp
                    with_reducible rfl
                  rotate_left
                  · simp only [Act.put, List.setIfInBounds_toArray, List.set_cons_zero, List.set_cons_succ, i64_w, i32_w]
                    rfl
                  refine done_ (done_of HT_.out (by kernel_rfl)) ?_
                  try go_wp2
                  go_roundg k2
                  case measure => have := HJ5.out; have := HK2.out; omega
                  case rel => exact ⟨(ji23), (ji25), (wrap64 (x11_2 + 1)), (by first | rfl | (simp; done) | (simp only [← hji23] <;> (first | rfl | simp)) | (simp [*]; done)), (by first | rfl | (simp; done) | (simp only [← hji25] <;> (first | rfl | simp)) | (simp [*]; done)), (by first | rfl | (simp; done) | (simp [*]; done)), H', ⟨by have := HJ5.out; have := HK2.out; omega⟩, ⟨by (with_reducible repeat (first | apply Kd.R_alloc | apply Kd.R_drewN | apply Kd.R_drew)); exact HO_374001.out⟩, ⟨by (with_reducible repeat (first | apply Kd.S_alloc | apply Kd.S_drewN | apply Kd.S_drew)); exact HO_374002.out⟩, ⟨by (with_reducible repeat (first | apply Kd.R_alloc | apply Kd.R_drewN | apply Kd.R_drew)); exact HO_383001.out⟩, ⟨by (with_reducible repeat (first | apply Kd.S_alloc | apply Kd.S_drewN | apply Kd.S_drew)); exact HO_383002.out⟩, ⟨by (with_reducible repeat (first | refine blk_drewN ?_ _ | refine blk_drew ?_ | refine blk_alloc ?_ _)); exact BK373.out⟩, ⟨by (with_reducible repeat (first | refine blk_drewN ?_ _ | refine blk_drew ?_ | refine blk_alloc ?_ _)); exact BK382.out⟩, ⟨by repeat (first | (with_reducible first | exact HB.out | apply below_alloc | apply pw_below_drewN | apply below_drew1 | refine below_set ?_ GE373.out | refine below_set ?_ GE382.out) | exact HB.out)⟩⟩
                · rw [if_neg c21] at H
                  exact absurd H (by simp)
              · rw [if_neg c20] at H
                have c20b0 : decide (x11_2 < (t366.length : Int)) = false := decide_eq_false c20
                clear c20
                by_cases c32 : (wrap64 (x10_2 - x9_2)) ≤ 1
                · rw [if_pos c32] at H
                  have c32b0 : decide ((wrap64 (x10_2 - x9_2)) ≤ 1) = true := decide_eq_true c32
                  clear c32
                  obtain rfl := Option.some.inj H
                  have hnb33 := NB373_382.out
                  have hnc33 := NB382_373.out
                  have hcz34_0 : wr.cell? ⟨gb373, 0, none⟩ = some (.int .i64 t365) := (blk_cell BK373.out 0).trans rfl
                  have hcz34_1 : wr.cell? ⟨gb373, 1, none⟩ = some (.slice Ao10 t366.length co10) := (blk_cell BK373.out 1).trans rfl
                  have hcz34_2 : wr.cell? ⟨gb373, 2, none⟩ = some (.slice Ao11 t369.length co11) := (blk_cell BK373.out 2).trans rfl
                  have hfz34_0 := blk_frozen BK373.out 0
                  have hfz34_1 := blk_frozen BK373.out 1
                  have hfz34_2 := blk_frozen BK373.out 2
                  go_wp2
                  go_ret
                  exact ⟨by first | rfl | (simp [errW_none, errW_some] <;> rfl) | (simp [*, errW_none, errW_some] <;> rfl), by repeat (first | (with_reducible first | exact HB.out | apply below_alloc | apply pw_below_drewN | apply below_drew1 | refine below_set ?_ GE373.out | refine below_set ?_ GE382.out) | exact HB.out)⟩
                · rw [if_neg c32] at H
                  have c32b0 : decide ((wrap64 (x10_2 - x9_2)) ≤ 1) = false := decide_eq_false c32
                  clear c32
                  obtain rfl := Option.some.inj H
                  have hnb35 := NB373_382.out
                  have hnc35 := NB382_373.out
                  have hcz36_0 : wr.cell? ⟨gb373, 0, none⟩ = some (.int .i64 t365) := (blk_cell BK373.out 0).trans rfl
                  have hcz36_1 : wr.cell? ⟨gb373, 1, none⟩ = some (.slice Ao10 t366.length co10) := (blk_cell BK373.out 1).trans rfl
                  have hcz36_2 : wr.cell? ⟨gb373, 2, none⟩ = some (.slice Ao11 t369.length co11) := (blk_cell BK373.out 2).trans rfl
                  have hfz36_0 := blk_frozen BK373.out 0
                  have hfz36_1 := blk_frozen BK373.out 1
                  have hfz36_2 := blk_frozen BK373.out 2
                  go_wp2
                  go_ret
                  exact ⟨by first | rfl | (simp [errW_none, errW_some] <;> rfl) | (simp [*, errW_none, errW_some] <;> rfl), by repeat (first | (with_reducible first | exact HB.out | apply below_alloc | apply pw_below_drewN | apply below_drew1 | refine below_set ?_ GE373.out | refine below_set ?_ GE382.out) | exact HB.out)⟩

/-- THE ONE PURE STATEMENT of thermographlaw14_PlacementEven: yours. -/
def thermographlaw14_PlacementEven.Pure : Prop := ∀ (l0 : List Int) (a1 : Int), l0.length ≤ maxLen → l0.length * 8 ≤ 140737488351232 → (∀ x ∈ l0, (Lit.int .i64 x).wf = true) → (Lit.int .i64 a1).wf = true → ∃ k, thermographlaw14_PlacementEven.f k l0 a1 = some true
theorem thermographlaw14_PlacementEven.walk (P : thermographlaw14_PlacementEven.Pure) (a0 : Option Addr) (len0 cap0 : Nat) (z0 : List Int) (a1 : Int) (w : World) (w0 : (a0 = none ∧ len0 = 0 ∧ cap0 = 0 ∧ z0 = []) ∨ ∃ x, a0 = some x ∧ len0 ≤ cap0 ∧ cap0 ≤ maxLen ∧ z0.length = cap0 ∧ (∀ i, i < z0.length → w.cell? (x.add i) = some (.int .i64 (z0.getD i 0))) ∧ ∀ n ∈ z0, (Lit.int .i64 n).wf = true) (y0 : len0 * 8 ≤ 140737488351232) (w1 : (Lit.int .i64 a1).wf = true) :
    Calls Try.prog 3 #[.slice a0 len0 cap0, .int .i64 a1] w fun e w' => e = .returned (.bool true) ∧ Below w.heap.size w w' := by
  obtain ⟨l0, rfl, hr0, hm0, hw0, hc0⟩ := ReadsInt.ofRowC w0
  obtain ⟨k, h⟩ := P l0 a1 hm0 y0 hw0 w1
  refine (thermographlaw14_PlacementEven.calls k _ _ l0 a1 true w (Kd.C_of_reads (d := (0 : Int)) (h1 := fun _ => rfl) hr0) hc0 h).mono ?_
  rintro e w' ⟨rfl, hd⟩
  exact ⟨rfl, hd⟩

end Go.Proofs.Ytmdebnfjhnhcjaa.QB
