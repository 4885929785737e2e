/- What functions of the translation come to, each as a Lean function, and a proof that the call comes to just that; or a law's row, out of its plain law. Written by mp.py, a program of this session, which runs the printer of the kit with stand-in bodies for some library functions.
   The document's Init as a Lean function laid by hand (a stand-in for the printer). -/
import Derived.Test.YtmdebnfjhnhcjaaZPlacementEven0
import Derived.Test.YtmdebnfjhnhcjaaZPlacementEven8
import Derived.Test.YtmdebnfjhnhcjaaZPlacementEven6
import Derived.Test.YtmdebnfjhnhcjaaZPlacementEven7
import Derived.Test.YtmdebnfjhnhcjaaZPlacementEven3
import Derived.Deep.RegionHeld3
import Derived.WalkSpells
import Derived.Outline
import Derived.OrdersHeld
namespace Go.Proofs.Ytmdebnfjhnhcjaa.QB
open Go.RowKit Go.Proofs.YtmdebnfjhnhcjaaW.PrintWords Go.Proofs.YtmdebnfjhnhcjaaW.PrintLast Go.Proofs.YtmdebnfjhnhcjaaW.PrintMore
attribute [local go_sem] max2_int min2_int max_two min_two max_three min_three max_four min_four   -- for this text's walks alone
set_option linter.unusedVariables false
set_option linter.unusedSimpArgs false

/-! ### placement_owns: function 43 -/
def placement_owns.f (k : Nat) (a0_0 : Int) (l0_1 : List Int) (l0_2 : List (List (S41))) (a1 : Int) (a2 : Int) : Option (Bool) := (placement_Find.f k a0_0 l0_1 l0_2 a1 a2).bind fun bt269 => (if bt269.2.2.2 = true then ((placement_stays.f bt269.1 bt269.2.1 bt269.2.2.1).bind fun t274 => (some t274)) else (some false))
theorem placement_owns.mono : ∀ a0 a1 a2 a3 a4 k, LeO (placement_owns.f k a0 a1 a2 a3 a4) (placement_owns.f (k + 1) a0 a1 a2 a3 a4) := by
  intro a0 a1 a2 a3 a4 k
  unfold placement_owns.f
  repeat' first
      | (with_reducible exact placement_Find.mono _ _ _ _ _ _)
      | (with_reducible exact LeO.refl _)
      | (with_reducible exact LeO.none _)
      | (with_reducible refine LeO.ite ?_ ?_)
      | (with_reducible refine LeO.bind ?_ (fun _ => ?_))
      | exact placement_Find.mono _ _ _ _ _ _
      | exact LeO.none _
      | refine LeO.ite ?_ ?_
      | refine LeO.bind ?_ (fun _ => ?_)
set_option maxHeartbeats 8000000 in
set_option maxRecDepth 100000 in
theorem placement_owns.calls (k : Nat) (a0_0 : Int) (A0_1 : Option Addr) (c0_1 : Nat) (l0_1 : List Int) (A0_2 : Option Addr) (c0_2 : Nat) (l0_2 : List (List (S41))) (a1 : Int) (a2 : Int) (r : Bool) (w : World) (hr0_1 : Kd.C (Kd.int .i64) w A0_1 l0_1.length l0_1) (hc0_1 : l0_1.length ≤ c0_1) (hr0_2 : Kd.C (Kd.slice 41 k41) w A0_2 l0_2.length l0_2) (hc0_2 : l0_2.length ≤ c0_2) (h : placement_owns.f k a0_0 l0_1 l0_2 a1 a2 = some r) :
    Calls Try.prog 43 #[.agg #[.int .i64 a0_0, .slice A0_1 l0_1.length c0_1, .slice A0_2 l0_2.length c0_2], .int .i64 a1, .int .i64 a2] w fun e w' => e = .returned (.bool r) ∧ Below w.heap.size w w' := by
  have hu25 := Try.underlying25
  have hu41 := Try.underlying41
  have HR0_1 := Aside0.mk hr0_1
  have HC0_1 := Aside0.mk hc0_1
  clear hr0_1 hc0_1
  have HR0_2 := Aside0.mk hr0_2
  have HC0_2 := Aside0.mk hc0_2
  clear hr0_2 hc0_2
  have HB := Aside0.mk (Below.refl w.heap.size w)
  have H : ((placement_Find.f k a0_0 l0_1 l0_2 a1 a2).bind fun bt269 => (if bt269.2.2.2 = true then ((placement_stays.f bt269.1 bt269.2.1 bt269.2.2.1).bind fun t274 => (some t274)) else (some false))) = some r := h
  clear h
  replace H := Option.bind_eq_some_iff.mp H
  obtain ⟨⟨t269, t270, t271, t272⟩, A40, H⟩ := H
  replace H : (if t272 = true then ((placement_stays.f t269 t270 t271).bind fun t274 => (some t274)) else (some false)) = some r := H
  have A4 := Aside0.mk A40
  clear A40
  by_cases c5 : t272 = true
  · subst c5
    have H1 : ((placement_stays.f t269 t270 t271).bind fun t274 => (some t274)) = some r := by rw [if_pos rfl] at H; exact H
    clear H
    have H := H1
    clear H1
    replace H := Option.bind_eq_some_iff.mp H
    obtain ⟨t274, A60, H⟩ := H
    replace H : (some t274) = some r := H
    have A6 := Aside0.mk A60
    clear A60
    obtain rfl := Option.some.inj H
    go_enter Try.func43, Try.ntmps43
    go_wp2_with (first | ((with_reducible refine gate_dst (N := 3) rfl ?_); refine box_event ?hg (N := 3) ?hd (cs := #[.int .i64 a0_0, .slice A0_1 l0_1.length c0_1, .slice A0_2 l0_2.length c0_2]) (t := 25) ?hr ?_; (case hd => rfl); (case hg => rfl); (case hr => first | (go_simp; done) | (go_simp; rfl)); intro gb268 hg w7 hbox hb; have n0_ := Aside0.mk (below_step (by repeat (first | (with_reducible first | exact HB.out | apply below_alloc | apply pw_below_drewN | apply below_drew1) | exact HB.out)) hb); have n1_ := Aside0.mk (hbox); have n2_ := Aside0.mk ((by rw [hg]; exact (below_size (by repeat (first | (with_reducible first | exact HB.out | apply below_alloc | apply pw_below_drewN | apply below_drew1) | exact HB.out))) : w.heap.size ≤ gb268)); have n3_ := Aside0.mk ((by rw [hg]; exact (below_size (by repeat (first | (with_reducible first | exact HB.out | apply below_alloc | apply pw_below_drewN | apply below_drew1) | exact HB.out))) : w.heap.size ≤ gb268)); clear HB; have HB := n0_; have BK268 := n1_; have GW268 := n2_; have GE268 := n3_; clear n0_ n1_ n2_ n3_; clear hb hbox hg; have hcz8_0 : w7.cell? ⟨gb268, 0, none⟩ = some (.int .i64 a0_0) := (blk_cell BK268.out 0).trans rfl; have hcz8_1 : w7.cell? ⟨gb268, 1, none⟩ = some (.slice A0_1 l0_1.length c0_1) := (blk_cell BK268.out 1).trans rfl; have hcz8_2 : w7.cell? ⟨gb268, 2, none⟩ = some (.slice A0_2 l0_2.length c0_2) := (blk_cell BK268.out 2).trans rfl; have hfz8_0 := blk_frozen BK268.out 0; have hfz8_1 := blk_frozen BK268.out 1; have hfz8_2 := blk_frozen BK268.out 2) | ((with_reducible refine gate_callee (f := 26) rfl ?_); refine goesL_ (some 13) rfl rfl Try.func26 (by kernel_rfl) rfl #[.agg #[.int .i64 a0_0, .slice A0_1 l0_1.length c0_1, .slice A0_2 l0_2.length c0_2], .int .i64 a1, .int .i64 a2] rfl (by (try simp only [List.map_toArray, List.map_cons, List.map_nil]); first | done | rfl | (simp only [List.length_drop, List.length_take]; rfl)) ?_; (with_reducible refine (placement_Find.calls k a0_0 _ _ l0_1 _ _ l0_2 a1 a2 t269 t270 t271 true _ ?side1 ?side2 ?side3 ?side4 A4.out).mono ?_); (case side1 => repeat (first | exact (Kd.C_below HR0_1.out HB.out) | (with_reducible refine Kd.C_alloc ?_ _) | (with_reducible refine Kd.C_drewN ?_ _) | (with_reducible refine Kd.C_drew ?_))); (case side2 => exact HC0_1.out); (case side3 => repeat (first | exact (Kd.C_below HR0_2.out HB.out) | (with_reducible refine Kd.C_alloc ?_ _) | (with_reducible refine Kd.C_drewN ?_ _) | (with_reducible refine Kd.C_drew ?_))); (case side4 => exact HC0_2.out); rintro e w9 ⟨rfl, hb⟩; refine ⟨_, rfl, ?_⟩; have n0_ := Aside0.mk (blk_below (g := gb268) (o := .cells #[.int .i64 a0_0, .slice A0_1 l0_1.length c0_1, .slice A0_2 l0_2.length c0_2] 25 (0, 0)) (by (with_reducible repeat (first | refine blk_drewN ?_ _ | refine blk_drew ?_ | refine blk_alloc ?_ _)); exact BK268.out) hb); have n1_ := Aside0.mk (below_step (by repeat (first | (with_reducible first | exact HB.out | apply below_alloc | apply pw_below_drewN | apply below_drew1 | refine below_set ?_ GE268.out) | exact HB.out)) hb); clear BK268; clear HB; have BK268 := n0_; have HB := n1_; clear n0_ n1_; (try clear hb); (try clear hb2); (try clear hk); (try clear hi)) | ((with_reducible refine gate_dst (N := 7) rfl ?_); refine box_event ?hg (N := 7) ?hd (cs := #[.int .i64 0, .int .i64 0, .int .i64 0]) (t := 41) ?hr ?_; (case hd => rfl); (case hg => rfl); (case hr => first | (go_simp; done) | (go_simp; rfl)); intro gb273 hg w10 hbox hb; have n0_ := Aside0.mk (blk_below (g := gb268) (o := .cells #[.int .i64 a0_0, .slice A0_1 l0_1.length c0_1, .slice A0_2 l0_2.length c0_2] 25 (0, 0)) (by (with_reducible repeat (first | refine blk_drewN ?_ _ | refine blk_drew ?_ | refine blk_alloc ?_ _)); exact BK268.out) hb); have n1_ := Aside0.mk (below_step (by repeat (first | (with_reducible first | exact HB.out | apply below_alloc | apply pw_below_drewN | apply below_drew1 | refine below_set ?_ GE268.out) | exact HB.out)) hb); have n2_ := Aside0.mk (hbox); have n3_ := Aside0.mk ((by rw [hg]; exact (below_size (by repeat (first | (with_reducible first | exact HB.out | apply below_alloc | apply pw_below_drewN | apply below_drew1 | refine below_set ?_ GE268.out) | exact HB.out))) : w.heap.size ≤ gb273)); have n4_ := Aside0.mk ((by rw [hg]; exact (below_size (by repeat (first | (with_reducible first | exact HB.out | apply below_alloc | apply pw_below_drewN | apply below_drew1 | refine below_set ?_ GE268.out) | exact HB.out))) : w.heap.size ≤ gb273)); have n5_ := Aside0.mk ((by rw [hg]; exact Nat.ne_of_lt (blk_lt (g := gb268) (o := .cells #[.int .i64 a0_0, .slice A0_1 l0_1.length c0_1, .slice A0_2 l0_2.length c0_2] 25 (0, 0)) (by (with_reducible repeat (first | refine blk_drewN ?_ _ | refine blk_drew ?_ | refine blk_alloc ?_ _)); exact BK268.out)) : gb268 ≠ gb273)); have n6_ := Aside0.mk ((by rw [hg]; exact Nat.ne_of_gt (blk_lt (g := gb268) (o := .cells #[.int .i64 a0_0, .slice A0_1 l0_1.length c0_1, .slice A0_2 l0_2.length c0_2] 25 (0, 0)) (by (with_reducible repeat (first | refine blk_drewN ?_ _ | refine blk_drew ?_ | refine blk_alloc ?_ _)); exact BK268.out)) : gb273 ≠ gb268)); clear BK268; clear HB; have BK268 := n0_; have HB := n1_; have BK273 := n2_; have GW273 := n3_; have GE273 := n4_; have NB268_273 := n5_; have NB273_268 := n6_; clear n0_ n1_ n2_ n3_ n4_ n5_ n6_; clear hb hbox hg; have hnb11 := NB273_268.out; have hnc11 := NB268_273.out; have hcz12_0 : w10.cell? ⟨gb273, 0, none⟩ = some (.int .i64 0) := (blk_cell BK273.out 0).trans rfl; have hcz12_1 : w10.cell? ⟨gb273, 1, none⟩ = some (.int .i64 0) := (blk_cell BK273.out 1).trans rfl; have hcz12_2 : w10.cell? ⟨gb273, 2, none⟩ = some (.int .i64 0) := (blk_cell BK273.out 2).trans rfl; have hfz12_0 := blk_frozen BK273.out 0; have hfz12_1 := blk_frozen BK273.out 1; have hfz12_2 := blk_frozen BK273.out 2) | (go_at_call 78; (with_reducible refine (placement_stays.calls t269 t270 t271 t274 _ A6.out).mono ?_); rintro e w13 ⟨rfl, hb⟩; have n0_ := Aside0.mk (blk_below (g := gb268) (o := .cells #[.int .i64 a0_0, .slice A0_1 l0_1.length c0_1, .slice A0_2 l0_2.length c0_2] 25 (0, 0)) (by (with_reducible repeat (first | refine blk_drewN ?_ _ | refine blk_drew ?_ | refine blk_alloc ?_ _)); refine blk_far ?_ NB268_273.out _; (with_reducible repeat (first | refine blk_drewN ?_ _ | refine blk_drew ?_ | refine blk_alloc ?_ _)); refine blk_far ?_ NB268_273.out _; (with_reducible repeat (first | refine blk_drewN ?_ _ | refine blk_drew ?_ | refine blk_alloc ?_ _)); refine blk_far ?_ NB268_273.out _; (with_reducible repeat (first | refine blk_drewN ?_ _ | refine blk_drew ?_ | refine blk_alloc ?_ _)); exact BK268.out) hb); have n1_ := Aside0.mk (blk_below (g := gb273) (o := .cells #[.int .i64 t269, .int .i64 t270, .int .i64 t271] 41 (0, 0)) (by (with_reducible repeat (first | refine blk_drewN ?_ _ | refine blk_drew ?_ | refine blk_alloc ?_ _)); refine blk_put (cs := #[.int .i64 t269, .int .i64 t270, .int .i64 0]) ?_ 2 _ rfl; (with_reducible repeat (first | refine blk_drewN ?_ _ | refine blk_drew ?_ | refine blk_alloc ?_ _)); refine blk_put (cs := #[.int .i64 t269, .int .i64 0, .int .i64 0]) ?_ 1 _ rfl; (with_reducible repeat (first | refine blk_drewN ?_ _ | refine blk_drew ?_ | refine blk_alloc ?_ _)); refine blk_put (cs := #[.int .i64 0, .int .i64 0, .int .i64 0]) ?_ 0 _ rfl; (with_reducible repeat (first | refine blk_drewN ?_ _ | refine blk_drew ?_ | refine blk_alloc ?_ _)); exact BK273.out) hb); have n2_ := Aside0.mk (below_step (by repeat (first | (with_reducible first | exact HB.out | apply below_alloc | apply pw_below_drewN | apply below_drew1 | refine below_set ?_ GE268.out | refine below_set ?_ GE273.out) | exact HB.out)) hb); clear BK268; clear BK273; clear HB; have BK268 := n0_; have BK273 := n1_; have HB := n2_; clear n0_ n1_ n2_; (try clear hb); (try clear hb2); (try clear hk); (try clear hi)))
    go_ret
    exact ⟨by first | rfl | (simp [errW_none, errW_some] <;> rfl) | (simp [*, errW_none, errW_some] <;> rfl), by repeat (first | (with_reducible first | exact HB.out | apply below_alloc | apply pw_below_drewN | apply below_drew1 | refine below_set ?_ GE268.out | refine below_set ?_ GE273.out) | exact HB.out)⟩
  · replace c5 := Bool.eq_false_iff.mpr c5
    subst c5
    have H1 : (some false) = some r := by rw [if_neg (show ¬ (false = true) by decide)] at H; exact H
    clear H
    have H := H1
    clear H1
    obtain rfl := Option.some.inj H
    go_enter Try.func43, Try.ntmps43
    go_wp2_with (first | ((with_reducible refine gate_dst (N := 3) rfl ?_); refine box_event ?hg (N := 3) ?hd (cs := #[.int .i64 a0_0, .slice A0_1 l0_1.length c0_1, .slice A0_2 l0_2.length c0_2]) (t := 25) ?hr ?_; (case hd => rfl); (case hg => rfl); (case hr => first | (go_simp; done) | (go_simp; rfl)); intro gb268 hg w14 hbox hb; have n0_ := Aside0.mk (below_step (by repeat (first | (with_reducible first | exact HB.out | apply below_alloc | apply pw_below_drewN | apply below_drew1) | exact HB.out)) hb); have n1_ := Aside0.mk (hbox); have n2_ := Aside0.mk ((by rw [hg]; exact (below_size (by repeat (first | (with_reducible first | exact HB.out | apply below_alloc | apply pw_below_drewN | apply below_drew1) | exact HB.out))) : w.heap.size ≤ gb268)); have n3_ := Aside0.mk ((by rw [hg]; exact (below_size (by repeat (first | (with_reducible first | exact HB.out | apply below_alloc | apply pw_below_drewN | apply below_drew1) | exact HB.out))) : w.heap.size ≤ gb268)); clear HB; have HB := n0_; have BK268 := n1_; have GW268 := n2_; have GE268 := n3_; clear n0_ n1_ n2_ n3_; clear hb hbox hg; have hcz15_0 : w14.cell? ⟨gb268, 0, none⟩ = some (.int .i64 a0_0) := (blk_cell BK268.out 0).trans rfl; have hcz15_1 : w14.cell? ⟨gb268, 1, none⟩ = some (.slice A0_1 l0_1.length c0_1) := (blk_cell BK268.out 1).trans rfl; have hcz15_2 : w14.cell? ⟨gb268, 2, none⟩ = some (.slice A0_2 l0_2.length c0_2) := (blk_cell BK268.out 2).trans rfl; have hfz15_0 := blk_frozen BK268.out 0; have hfz15_1 := blk_frozen BK268.out 1; have hfz15_2 := blk_frozen BK268.out 2) | ((with_reducible refine gate_callee (f := 26) rfl ?_); refine goesL_ (some 13) rfl rfl Try.func26 (by kernel_rfl) rfl #[.agg #[.int .i64 a0_0, .slice A0_1 l0_1.length c0_1, .slice A0_2 l0_2.length c0_2], .int .i64 a1, .int .i64 a2] rfl (by (try simp only [List.map_toArray, List.map_cons, List.map_nil]); first | done | rfl | (simp only [List.length_drop, List.length_take]; rfl)) ?_; (with_reducible refine (placement_Find.calls k a0_0 _ _ l0_1 _ _ l0_2 a1 a2 t269 t270 t271 false _ ?side1 ?side2 ?side3 ?side4 A4.out).mono ?_); (case side1 => repeat (first | exact (Kd.C_below HR0_1.out HB.out) | (with_reducible refine Kd.C_alloc ?_ _) | (with_reducible refine Kd.C_drewN ?_ _) | (with_reducible refine Kd.C_drew ?_))); (case side2 => exact HC0_1.out); (case side3 => repeat (first | exact (Kd.C_below HR0_2.out HB.out) | (with_reducible refine Kd.C_alloc ?_ _) | (with_reducible refine Kd.C_drewN ?_ _) | (with_reducible refine Kd.C_drew ?_))); (case side4 => exact HC0_2.out); rintro e w16 ⟨rfl, hb⟩; refine ⟨_, rfl, ?_⟩; have n0_ := Aside0.mk (blk_below (g := gb268) (o := .cells #[.int .i64 a0_0, .slice A0_1 l0_1.length c0_1, .slice A0_2 l0_2.length c0_2] 25 (0, 0)) (by (with_reducible repeat (first | refine blk_drewN ?_ _ | refine blk_drew ?_ | refine blk_alloc ?_ _)); exact BK268.out) hb); have n1_ := Aside0.mk (below_step (by repeat (first | (with_reducible first | exact HB.out | apply below_alloc | apply pw_below_drewN | apply below_drew1 | refine below_set ?_ GE268.out) | exact HB.out)) hb); clear BK268; clear HB; have BK268 := n0_; have HB := n1_; clear n0_ n1_; (try clear hb); (try clear hb2); (try clear hk); (try clear hi)) | ((with_reducible refine gate_dst (N := 7) rfl ?_); refine box_event ?hg (N := 7) ?hd (cs := #[.int .i64 0, .int .i64 0, .int .i64 0]) (t := 41) ?hr ?_; (case hd => rfl); (case hg => rfl); (case hr => first | (go_simp; done) | (go_simp; rfl)); intro gb273 hg w17 hbox hb; have n0_ := Aside0.mk (blk_below (g := gb268) (o := .cells #[.int .i64 a0_0, .slice A0_1 l0_1.length c0_1, .slice A0_2 l0_2.length c0_2] 25 (0, 0)) (by (with_reducible repeat (first | refine blk_drewN ?_ _ | refine blk_drew ?_ | refine blk_alloc ?_ _)); exact BK268.out) hb); have n1_ := Aside0.mk (below_step (by repeat (first | (with_reducible first | exact HB.out | apply below_alloc | apply pw_below_drewN | apply below_drew1 | refine below_set ?_ GE268.out) | exact HB.out)) hb); have n2_ := Aside0.mk (hbox); have n3_ := Aside0.mk ((by rw [hg]; exact (below_size (by repeat (first | (with_reducible first | exact HB.out | apply below_alloc | apply pw_below_drewN | apply below_drew1 | refine below_set ?_ GE268.out) | exact HB.out))) : w.heap.size ≤ gb273)); have n4_ := Aside0.mk ((by rw [hg]; exact (below_size (by repeat (first | (with_reducible first | exact HB.out | apply below_alloc | apply pw_below_drewN | apply below_drew1 | refine below_set ?_ GE268.out) | exact HB.out))) : w.heap.size ≤ gb273)); have n5_ := Aside0.mk ((by rw [hg]; exact Nat.ne_of_lt (blk_lt (g := gb268) (o := .cells #[.int .i64 a0_0, .slice A0_1 l0_1.length c0_1, .slice A0_2 l0_2.length c0_2] 25 (0, 0)) (by (with_reducible repeat (first | refine blk_drewN ?_ _ | refine blk_drew ?_ | refine blk_alloc ?_ _)); exact BK268.out)) : gb268 ≠ gb273)); have n6_ := Aside0.mk ((by rw [hg]; exact Nat.ne_of_gt (blk_lt (g := gb268) (o := .cells #[.int .i64 a0_0, .slice A0_1 l0_1.length c0_1, .slice A0_2 l0_2.length c0_2] 25 (0, 0)) (by (with_reducible repeat (first | refine blk_drewN ?_ _ | refine blk_drew ?_ | refine blk_alloc ?_ _)); exact BK268.out)) : gb273 ≠ gb268)); clear BK268; clear HB; have BK268 := n0_; have HB := n1_; have BK273 := n2_; have GW273 := n3_; have GE273 := n4_; have NB268_273 := n5_; have NB273_268 := n6_; clear n0_ n1_ n2_ n3_ n4_ n5_ n6_; clear hb hbox hg; have hnb18 := NB273_268.out; have hnc18 := NB268_273.out; have hcz19_0 : w17.cell? ⟨gb273, 0, none⟩ = some (.int .i64 0) := (blk_cell BK273.out 0).trans rfl; have hcz19_1 : w17.cell? ⟨gb273, 1, none⟩ = some (.int .i64 0) := (blk_cell BK273.out 1).trans rfl; have hcz19_2 : w17.cell? ⟨gb273, 2, none⟩ = some (.int .i64 0) := (blk_cell BK273.out 2).trans rfl; have hfz19_0 := blk_frozen BK273.out 0; have hfz19_1 := blk_frozen BK273.out 1; have hfz19_2 := blk_frozen BK273.out 2))
    go_ret
    exact ⟨by first | rfl | (simp [errW_none, errW_some] <;> rfl) | (simp [*, errW_none, errW_some] <;> rfl), by repeat (first | (with_reducible first | exact HB.out | apply below_alloc | apply pw_below_drewN | apply below_drew1 | refine below_set ?_ GE268.out | refine below_set ?_ GE273.out) | exact HB.out)⟩

/-! ### placement_Load: function 13 -/
def placement_Load.l0 : Nat → Int → Int → Int → Int → Int → List Int → List (List (S41)) → Option (Int)
  | 0, _, _, _, _, _, _, _ => none
  | k + 1, x1, x5, x9, x10, x276000, x276001, x276002 => if x10 < x9 then ((placement_owns.f k x276000 x276001 x276002 x10 x1).bind fun t276 => (if t276 = true then (placement_Load.l0 k x1 (wrap64 (x5 + 1)) x9 (wrap64 (x10 + 1)) x276000 x276001 x276002) else (placement_Load.l0 k x1 x5 x9 (wrap64 (x10 + 1)) x276000 x276001 x276002))) else (some x5)
def placement_Load.f (k : Nat) (a0_0 : Int) (l0_1 : List Int) (l0_2 : List (List (S41))) (a1 : Int) : Option (Int) := placement_Load.l0 k a1 0 (l0_2.length : Int) 0 a0_0 l0_1 l0_2
theorem placement_Load.mono_l : ∀ k, (∀ y0 y1 y2 y3 y4 y5 y6, LeO (placement_Load.l0 k y0 y1 y2 y3 y4 y5 y6) (placement_Load.l0 (k + 1) y0 y1 y2 y3 y4 y5 y6))
  | 0 => fun _ _ _ _ _ _ _ r h => by simp [placement_Load.l0] at h
  | k + 1 => by
    have ih0 := placement_Load.mono_l k
    · intro y0 y1 y2 y3 y4 y5 y6
      unfold placement_Load.l0
      repeat' first
      | (with_reducible exact ih0 _ _ _ _ _ _ _)
      | (with_reducible exact placement_owns.mono _ _ _ _ _ _)
      | (with_reducible exact LeO.refl _)
      | (with_reducible exact LeO.none _)
      | (with_reducible refine LeO.ite ?_ ?_)
      | (with_reducible refine LeO.bind ?_ (fun _ => ?_))
      | exact ih0 _ _ _ _ _ _ _
      | exact placement_owns.mono _ _ _ _ _ _
      | exact LeO.none _
      | refine LeO.ite ?_ ?_
      | refine LeO.bind ?_ (fun _ => ?_)
theorem placement_Load.mono : ∀ a0 a1 a2 a3 k, LeO (placement_Load.f k a0 a1 a2 a3) (placement_Load.f (k + 1) a0 a1 a2 a3) := by
  intro a0 a1 a2 a3 k
  have ih0 := placement_Load.mono_l k
  unfold placement_Load.f
  repeat' first
      | (with_reducible exact ih0 _ _ _ _ _ _ _)
      | (with_reducible exact placement_owns.mono _ _ _ _ _ _)
      | (with_reducible exact LeO.refl _)
      | (with_reducible exact LeO.none _)
      | (with_reducible refine LeO.ite ?_ ?_)
      | (with_reducible refine LeO.bind ?_ (fun _ => ?_))
      | exact ih0 _ _ _ _ _ _ _
      | exact placement_owns.mono _ _ _ _ _ _
      | exact LeO.none _
      | refine LeO.ite ?_ ?_
      | refine LeO.bind ?_ (fun _ => ?_)
set_option maxHeartbeats 8000000 in
set_option maxRecDepth 100000 in
theorem placement_Load.calls (k : Nat) (a0_0 : Int) (A0_1 : Option Addr) (c0_1 : Nat) (l0_1 : List Int) (A0_2 : Option Addr) (c0_2 : Nat) (l0_2 : List (List (S41))) (a1 : Int) (r : Int) (w : World) (hr0_1 : Kd.C (Kd.int .i64) w A0_1 l0_1.length l0_1) (hc0_1 : l0_1.length ≤ c0_1) (hr0_2 : Kd.C (Kd.slice 41 k41) w A0_2 l0_2.length l0_2) (hc0_2 : l0_2.length ≤ c0_2) (h : placement_Load.f k a0_0 l0_1 l0_2 a1 = some r) :
    Calls Try.prog 13 #[.agg #[.int .i64 a0_0, .slice A0_1 l0_1.length c0_1, .slice A0_2 l0_2.length c0_2], .int .i64 a1] w fun e w' => e = .returned (.int .i64 r) ∧ Below w.heap.size w w' := by
  have hu25 := Try.underlying25
  have HR0_1 := Aside0.mk hr0_1
  have HC0_1 := Aside0.mk hc0_1
  clear hr0_1 hc0_1
  have HR0_2 := Aside0.mk hr0_2
  have HC0_2 := Aside0.mk hc0_2
  clear hr0_2 hc0_2
  have HB := Aside0.mk (Below.refl w.heap.size w)
  have H : (placement_Load.l0 k a1 0 (l0_2.length : Int) 0 a0_0 l0_1 l0_2) = some r := h
  clear h
  have H' := Aside0.mk H
  clear H
  go_enter Try.func13, Try.ntmps13
  go_wp2_with (first | ((with_reducible refine gate_dst (N := 2) rfl ?_); refine box_event ?hg (N := 2) ?hd (cs := #[.int .i64 a0_0, .slice A0_1 l0_1.length c0_1, .slice A0_2 l0_2.length c0_2]) (t := 25) ?hr ?_; (case hd => rfl); (case hg => rfl); (case hr => first | (go_simp; done) | (go_simp; rfl)); intro gb275 hg w3 hbox hb; have n0_ := Aside0.mk (below_step (by repeat (first | (with_reducible first | exact HB.out | apply below_alloc | apply pw_below_drewN | apply below_drew1) | exact HB.out)) hb); have n1_ := Aside0.mk (hbox); have n2_ := Aside0.mk ((by rw [hg]; exact (below_size (by repeat (first | (with_reducible first | exact HB.out | apply below_alloc | apply pw_below_drewN | apply below_drew1) | exact HB.out))) : w.heap.size ≤ gb275)); have n3_ := Aside0.mk ((by rw [hg]; exact (below_size (by repeat (first | (with_reducible first | exact HB.out | apply below_alloc | apply pw_below_drewN | apply below_drew1) | exact HB.out))) : w.heap.size ≤ gb275)); clear HB; have HB := n0_; have BK275 := n1_; have GW275 := n2_; have GE275 := n3_; clear n0_ n1_ n2_ n3_; clear hb hbox hg; have hcz4_0 : w3.cell? ⟨gb275, 0, none⟩ = some (.int .i64 a0_0) := (blk_cell BK275.out 0).trans rfl; have hcz4_1 : w3.cell? ⟨gb275, 1, none⟩ = some (.slice A0_1 l0_1.length c0_1) := (blk_cell BK275.out 1).trans rfl; have hcz4_2 : w3.cell? ⟨gb275, 2, none⟩ = some (.slice A0_2 l0_2.length c0_2) := (blk_cell BK275.out 2).trans rfl; have hfz4_0 := blk_frozen BK275.out 0; have hfz4_1 := blk_frozen BK275.out 1; have hfz4_2 := blk_frozen BK275.out 2))
  go_loopg [5, 10] k (fun kq v5 v10 w' => ∃ (x5_1 : Int) (x10_1 : Int), v5 = .int .i64 x5_1 ∧ v10 = .int .i64 x10_1 ∧ Aside0 (placement_Load.l0 kq a1 x5_1 (l0_2.length : Int) x10_1 a0_0 l0_1 l0_2 = some r) ∧ Aside0 (kq ≤ k) ∧ Aside0 (w'.heap[gb275]? = some (.cells #[.int .i64 a0_0, (.slice A0_1 l0_1.length c0_1), (.slice A0_2 l0_2.length c0_2)] 25 (0, 0))) ∧ Aside0 (Below w.heap.size w w'))
  case atStart => exact ⟨(0), (0), (by first | rfl | (simp; done) | (simp [*]; done)), (by first | rfl | (simp; done) | (simp [*]; done)), H', ⟨Nat.le_refl _⟩, ⟨by (with_reducible repeat (first | refine blk_drewN ?_ _ | refine blk_drew ?_ | refine blk_alloc ?_ _)); exact BK275.out⟩, ⟨by repeat (first | (with_reducible first | exact HB.out | apply below_alloc | apply pw_below_drewN | apply below_drew1 | refine below_set ?_ GE275.out) | exact HB.out)⟩⟩
  case round =>
    clear H'
    try clear c1
    try clear p2
    try clear hcz4_0
    try clear hcz4_1
    try clear hcz4_2
    try clear hfz4_0
    try clear hfz4_1
    try clear hfz4_2
    obtain ⟨x5_1, x10_1, rfl, rfl, HA, HK1, BK275, HB⟩ := hrel
    cases gk with
    | zero => exact absurd HA.out (by simp [placement_Load.l0])
    | succ k1 =>
      have H := HA.out
      clear HA
      simp only [placement_Load.l0] at H
      by_cases c5 : x10_1 < (l0_2.length : Int)
      · rw [if_pos c5] at H
        have c5b0 : decide (x10_1 < (l0_2.length : Int)) = true := decide_eq_true c5
        clear c5
        replace H := Option.bind_eq_some_iff.mp H
        obtain ⟨t276, A60, H⟩ := H
        replace H : (if t276 = true then (placement_Load.l0 k1 a1 (wrap64 (x5_1 + 1)) (l0_2.length : Int) (wrap64 (x10_1 + 1)) a0_0 l0_1 l0_2) else (placement_Load.l0 k1 a1 x5_1 (l0_2.length : Int) (wrap64 (x10_1 + 1)) a0_0 l0_1 l0_2)) = some r := H
        have A6 := Aside0.mk A60
        clear A60
        by_cases c7 : t276 = true
        · subst c7
          have H1 : (placement_Load.l0 k1 a1 (wrap64 (x5_1 + 1)) (l0_2.length : Int) (wrap64 (x10_1 + 1)) a0_0 l0_1 l0_2) = some r := by rw [if_pos rfl] at H; exact H
          clear H
          have H := H1
          clear H1
          have H' := Aside0.mk H
          clear H
          have hcz8_0 : wr.cell? ⟨gb275, 0, none⟩ = some (.int .i64 a0_0) := (blk_cell BK275.out 0).trans rfl
          have hcz8_1 : wr.cell? ⟨gb275, 1, none⟩ = some (.slice A0_1 l0_1.length c0_1) := (blk_cell BK275.out 1).trans rfl
          have hcz8_2 : wr.cell? ⟨gb275, 2, none⟩ = some (.slice A0_2 l0_2.length c0_2) := (blk_cell BK275.out 2).trans rfl
          have hfz8_0 := blk_frozen BK275.out 0
          have hfz8_1 := blk_frozen BK275.out 1
          have hfz8_2 := blk_frozen BK275.out 2
          go_wp2_with (first | ((with_reducible refine gate_callee (f := 43) rfl ?_); refine goesL_ (some 16) rfl rfl Try.func43 (by kernel_rfl) rfl #[.agg #[.int .i64 a0_0, .slice A0_1 l0_1.length c0_1, .slice A0_2 l0_2.length c0_2], .int .i64 x10_1, .int .i64 a1] rfl (by (try simp only [List.map_toArray, List.map_cons, List.map_nil]); first | done | rfl | (simp only [List.length_drop, List.length_take]; rfl)) ?_; (with_reducible refine (placement_owns.calls k1 a0_0 _ _ l0_1 _ _ l0_2 x10_1 a1 true _ ?side1 ?side2 ?side3 ?side4 A6.out).mono ?_); (case side1 => repeat (first | exact (Kd.C_below HR0_1.out HB.out) | (with_reducible refine Kd.C_alloc ?_ _) | (with_reducible refine Kd.C_drewN ?_ _) | (with_reducible refine Kd.C_drew ?_))); (case side2 => exact HC0_1.out); (case side3 => repeat (first | exact (Kd.C_below HR0_2.out HB.out) | (with_reducible refine Kd.C_alloc ?_ _) | (with_reducible refine Kd.C_drewN ?_ _) | (with_reducible refine Kd.C_drew ?_))); (case side4 => exact HC0_2.out); rintro e w9 ⟨rfl, hb⟩; refine ⟨_, rfl, ?_⟩; have n0_ := Aside0.mk (blk_below (g := gb275) (o := .cells #[.int .i64 a0_0, .slice A0_1 l0_1.length c0_1, .slice A0_2 l0_2.length c0_2] 25 (0, 0)) (by (with_reducible repeat (first | refine blk_drewN ?_ _ | refine blk_drew ?_ | refine blk_alloc ?_ _)); exact BK275.out) hb); have n1_ := Aside0.mk (below_step (by repeat (first | (with_reducible first | exact HB.out | apply below_alloc | apply pw_below_drewN | apply below_drew1 | refine below_set ?_ GE275.out) | exact HB.out)) hb); clear BK275; clear HB; have BK275 := n0_; have HB := n1_; clear n0_ n1_; (try clear hb); (try clear hb2); (try clear hk); (try clear hi)))
          go_roundg k1
          case measure => have := HK1.out; omega
          case rel => exact ⟨(wrap64 (x5_1 + 1)), (wrap64 (x10_1 + 1)), (by first | rfl | (simp; done) | (simp [*]; done)), (by first | rfl | (simp; done) | (simp [*]; done)), H', ⟨by have := HK1.out; omega⟩, ⟨by (with_reducible repeat (first | refine blk_drewN ?_ _ | refine blk_drew ?_ | refine blk_alloc ?_ _)); exact BK275.out⟩, ⟨by repeat (first | (with_reducible first | exact HB.out | apply below_alloc | apply pw_below_drewN | apply below_drew1 | refine below_set ?_ GE275.out) | exact HB.out)⟩⟩
        · replace c7 := Bool.eq_false_iff.mpr c7
          subst c7
          have H1 : (placement_Load.l0 k1 a1 x5_1 (l0_2.length : Int) (wrap64 (x10_1 + 1)) a0_0 l0_1 l0_2) = some r := by rw [if_neg (show ¬ (false = true) by decide)] at H; exact H
          clear H
          have H := H1
          clear H1
          have H' := Aside0.mk H
          clear H
          have hcz10_0 : wr.cell? ⟨gb275, 0, none⟩ = some (.int .i64 a0_0) := (blk_cell BK275.out 0).trans rfl
          have hcz10_1 : wr.cell? ⟨gb275, 1, none⟩ = some (.slice A0_1 l0_1.length c0_1) := (blk_cell BK275.out 1).trans rfl
          have hcz10_2 : wr.cell? ⟨gb275, 2, none⟩ = some (.slice A0_2 l0_2.length c0_2) := (blk_cell BK275.out 2).trans rfl
          have hfz10_0 := blk_frozen BK275.out 0
          have hfz10_1 := blk_frozen BK275.out 1
          have hfz10_2 := blk_frozen BK275.out 2
          go_wp2_with (first | ((with_reducible refine gate_callee (f := 43) rfl ?_); refine goesL_ (some 16) rfl rfl Try.func43 (by kernel_rfl) rfl #[.agg #[.int .i64 a0_0, .slice A0_1 l0_1.length c0_1, .slice A0_2 l0_2.length c0_2], .int .i64 x10_1, .int .i64 a1] rfl (by (try simp only [List.map_toArray, List.map_cons, List.map_nil]); first | done | rfl | (simp only [List.length_drop, List.length_take]; rfl)) ?_; (with_reducible refine (placement_owns.calls k1 a0_0 _ _ l0_1 _ _ l0_2 x10_1 a1 false _ ?side1 ?side2 ?side3 ?side4 A6.out).mono ?_); (case side1 => repeat (first | exact (Kd.C_below HR0_1.out HB.out) | (with_reducible refine Kd.C_alloc ?_ _) | (with_reducible refine Kd.C_drewN ?_ _) | (with_reducible refine Kd.C_drew ?_))); (case side2 => exact HC0_1.out); (case side3 => repeat (first | exact (Kd.C_below HR0_2.out HB.out) | (with_reducible refine Kd.C_alloc ?_ _) | (with_reducible refine Kd.C_drewN ?_ _) | (with_reducible refine Kd.C_drew ?_))); (case side4 => exact HC0_2.out); rintro e w11 ⟨rfl, hb⟩; refine ⟨_, rfl, ?_⟩; have n0_ := Aside0.mk (blk_below (g := gb275) (o := .cells #[.int .i64 a0_0, .slice A0_1 l0_1.length c0_1, .slice A0_2 l0_2.length c0_2] 25 (0, 0)) (by (with_reducible repeat (first | refine blk_drewN ?_ _ | refine blk_drew ?_ | refine blk_alloc ?_ _)); exact BK275.out) hb); have n1_ := Aside0.mk (below_step (by repeat (first | (with_reducible first | exact HB.out | apply below_alloc | apply pw_below_drewN | apply below_drew1 | refine below_set ?_ GE275.out) | exact HB.out)) hb); clear BK275; clear HB; have BK275 := n0_; have HB := n1_; clear n0_ n1_; (try clear hb); (try clear hb2); (try clear hk); (try clear hi)))
          go_roundg k1
          case measure => have := HK1.out; omega
          case rel => exact ⟨(x5_1), (wrap64 (x10_1 + 1)), (by first | rfl | (simp; done) | (simp [*]; done)), (by first | rfl | (simp; done) | (simp [*]; done)), H', ⟨by have := HK1.out; omega⟩, ⟨by (with_reducible repeat (first | refine blk_drewN ?_ _ | refine blk_drew ?_ | refine blk_alloc ?_ _)); exact BK275.out⟩, ⟨by repeat (first | (with_reducible first | exact HB.out | apply below_alloc | apply pw_below_drewN | apply below_drew1 | refine below_set ?_ GE275.out) | exact HB.out)⟩⟩
      · rw [if_neg c5] at H
        have c5b0 : decide (x10_1 < (l0_2.length : Int)) = false := decide_eq_false c5
        clear c5
        obtain rfl := Option.some.inj H
        go_wp2
        go_ret
        exact ⟨by first | rfl | (simp [errW_none, errW_some] <;> rfl) | (simp [*, errW_none, errW_some] <;> rfl), by repeat (first | (with_reducible first | exact HB.out | apply below_alloc | apply pw_below_drewN | apply below_drew1 | refine below_set ?_ GE275.out) | exact HB.out)⟩

-- NOT PRINTED: function 37 (placement_maker_least)

/-! ### thermographref14_node: function 38 -/
def thermographref14_node.f (a0 : Int) : Option (Bool) := if a0 ≥ 0 then (some (decide (a0 < 8))) else (some false)
set_option maxHeartbeats 8000000 in
set_option maxRecDepth 100000 in
theorem thermographref14_node.calls (a0 : Int) (r : Bool) (w : World) (h : thermographref14_node.f a0 = some r) :
    Calls Try.prog 38 #[.int .i64 a0] w fun e w' => e = .returned (.bool r) ∧ Drawn0 w w' := by
  have H : (if a0 ≥ 0 then (some (decide (a0 < 8))) else (some false)) = some r := h
  clear h
  by_cases c2 : a0 ≥ 0
  · rw [if_pos c2] at H
    have c2b0 : decide (0 ≤ a0) = true := decide_eq_true c2
    clear c2
    obtain rfl := Option.some.inj H
    go_enter Try.func38, Try.ntmps38
    go_wp2
    go_ret
    exact ⟨by first | rfl | (simp; done) | (simp [*]; done), by repeat (first | exact Drawn0.refl _ | apply Drawn0.step)⟩
  · rw [if_neg c2] at H
    have c2b0 : decide (0 ≤ a0) = false := decide_eq_false c2
    clear c2
    obtain rfl := Option.some.inj H
    go_enter Try.func38, Try.ntmps38
    go_wp2
    go_ret
    exact ⟨by first | rfl | (simp; done) | (simp [*]; done), by repeat (first | exact Drawn0.refl _ | apply Drawn0.step)⟩

end Go.Proofs.Ytmdebnfjhnhcjaa.QB
namespace Go.Proofs.Ytmdebnfjhnhcjaa.RlP
open Go.RowKit Go.Proofs.YtmdebnfjhnhcjaaW.PrintWords Go.Proofs.YtmdebnfjhnhcjaaW.PrintLast Go.Proofs.YtmdebnfjhnhcjaaW.PrintMore Go.Proofs.Ytmdebnfjhnhcjaa.QB Go.Proofs.Ytmdebnfjhnhcjaa.PlI Go.Proofs.Ytmdebnfjhnhcjaa.PlS
set_option linter.unusedVariables false
set_option linter.unusedSimpArgs false
/-- A list of nodes with one more, rising. -/
def withG (l : List Int) (n : Int) : Nat → Nat → List Int
  | 0, _ => []
  | d + 1, i => if (i : Int) = n ∨ (i : Int) ∈ l then (i : Int) :: withG l n d (i + 1) else withG l n d (i + 1)
def withL (l : List Int) (n : Int) : List Int := withG l n 8 0
theorem withG_len (l : List Int) (n : Int) : ∀ d i, (withG l n d i).length ≤ d
  | 0, _ => Nat.le_refl _
  | d + 1, i => by
    rw [withG]
    have := withG_len l n d (i + 1)
    split
    · rw [List.length_cons]; omega
    · omega
theorem with_l0 (l : List Int) (n : Int) (hl : l.length ≤ 1000000) : ∀ (d k i : Nat) (acc : List Int), i + d = 8 → d + l.length < k → acc.length ≤ i → thermographref14_with.l0 k l n acc i = some (acc ++ withG l n d i)
  | 0, k + 1, i, acc, hi, hk, ha => by
    rw [thermographref14_with.l0, if_neg (by omega), withG, List.append_nil]
  | d + 1, k + 1, i, acc, hi, hk, ha => by
    have ih := fun acc ha => with_l0 l n hl d k (i + 1) acc (by omega) (by omega) ha
    rw [thermographref14_with.l0, if_pos (by omega), withG, w1 (by omega)]
    by_cases h : (i : Int) = n
    · rw [if_pos h, if_pos (by omega), ih _ (by rw [List.length_append, List.length_singleton]; omega), if_pos (.inl h), List.append_assoc]
      rfl
    · rw [if_neg h, has_f _ (by omega) (by omega), Option.bind_some]
      by_cases h2 : (i : Int) ∈ l
      · rw [if_pos (by simpa using h2), if_pos (by omega), ih _ (by rw [List.length_append, List.length_singleton]; omega), if_pos (.inr h2), List.append_assoc]
        rfl
      · rw [if_neg (by simpa using h2), ih acc (by omega), if_neg (fun hh => hh.elim h h2)]
theorem with_f {l : List Int} (n : Int) (hl : l.length ≤ 1000000) {k : Nat} (hk : 2000000 < k) : thermographref14_with.f k l n = some (withL l n) := by
  unfold thermographref14_with.f
  exact with_l0 l n hl 8 k 0 [] rfl (by omega) (Nat.le_refl _)
def initN : List Int → List Int → Option (List Int)
  | [], acc => some acc
  | x :: r, acc => if nodeB x = true ∧ ¬ x ∈ acc then initN r (withL acc x) else none
def addOne (ns : List Int) (ss : List (List Ow)) (i : Nat) : List (List Ow) := ss.set i (setL (ss.getD i []) ⟨leastG ss i ns (-1), 2, -1⟩)
def three (ns : List Int) (ss : List (List Ow)) (i : Nat) : List (List Ow) := addOne ns (addOne ns (addOne ns ss i) i) i
def initS (ns : List Int) : Nat → List (List Ow) → List (List Ow)
  | 0, ss => ss
  | d + 1, ss => initS ns d (three ns (ss ++ [[]]) ss.length)
def addN (ns : List Int) (i : Nat) : Nat → List (List Ow) → List (List Ow)
  | 0, ss => ss
  | d + 1, ss => addN ns i d (addOne ns ss i)
theorem addN_three (ns : List Int) (ss : List (List Ow)) (i : Nat) : addN ns i 3 ss = three ns ss i := rfl
theorem addOne_length (ns : List Int) (ss : List (List Ow)) (i : Nat) : (addOne ns ss i).length = ss.length := List.length_set
theorem getD_le {ss : List (List Ow)} {B : Nat} (h : ∀ l ∈ ss, l.length ≤ B) (i : Nat) : (ss.getD i []).length ≤ B := by
  rw [List.getD_eq_getElem?_getD]
  rcases Nat.lt_or_ge i ss.length with hi | hi
  · rw [List.getElem?_eq_getElem hi]
    exact h _ (List.getElem_mem hi)
  · rw [List.getElem?_eq_none hi]
    exact Nat.zero_le _
theorem addOne_le {ns : List Int} {ss : List (List Ow)} {i B : Nat} (h : ∀ l ∈ ss, l.length ≤ B) : ∀ l ∈ addOne ns ss i, l.length ≤ B + 1 := fun l hl => by
  rcases List.mem_or_eq_of_mem_set hl with hl | rfl
  · exact Nat.le_succ_of_le (h l hl)
  · exact Nat.le_trans (setL_le _ _) (Nat.succ_le_succ (getD_le h i))
def initF (l : List Int) (sh : Int) : Int × List Int × List (List Ow) × Int :=
  if l.length < 3 then (0, [], [], 140) else match initN l [] with
    | none => (0, [], [], 140)
    | some ns => if sh < 1 ∨ 8 < sh then (0, [], [], 1) else (1, ns, initS ns sh.toNat [], 0)
theorem node_eq (a : Int) : thermographref14_node.f a = some (nodeB a) := by
  unfold thermographref14_node.f nodeB
  by_cases h : a ≥ 0
  · rw [if_pos h]
    have : 0 ≤ a := h
    simp [this]
  · rw [if_neg h]
    have : ¬ 0 ≤ a := h
    simp [this]
end Go.Proofs.Ytmdebnfjhnhcjaa.RlP
namespace Go.Proofs.Ytmdebnfjhnhcjaa.QB
open Go.RowKit Go.Proofs.YtmdebnfjhnhcjaaW.PrintWords Go.Proofs.YtmdebnfjhnhcjaaW.PrintLast Go.Proofs.YtmdebnfjhnhcjaaW.PrintMore Go.Proofs.Ytmdebnfjhnhcjaa.Sl Go.Proofs.Ytmdebnfjhnhcjaa.PlI Go.Proofs.Ytmdebnfjhnhcjaa.PlS Go.Proofs.Ytmdebnfjhnhcjaa.PlM Go.Proofs.Ytmdebnfjhnhcjaa.RlP
set_option linter.unusedVariables false
set_option linter.unusedSimpArgs false
abbrev tP : Nat := 25
abbrev tI : Nat := 3
abbrev zP : Array Value := #[.int .i64 0, .slice none 0 0, .slice none 0 0]
/-- A placement at block g. -/
def Pm (g : Nat) (ver : Int) (ns : List Int) (ss : List (List Ow)) : Asn := Ex fun q : Value × Value => All [Blk g #[.int .i64 ver, q.1, q.2] tP, Row (Kd.int .i64) tI q.1 ns, Shs q.2 ss]
theorem Shs.nil {w0 w : World} {L : List Asn} (h : Sat w0 w L) : Sat w0 w (Shs (.slice none 0 0) [] :: L) := Shs.mk (hs := []) rfl (Sat.nilRow kH tL h)
theorem Shs.snocNil {w0 w : World} {L : List Asn} {hs : List Hd} {ss : List (List Ow)} {v : Value} (hl : hs.length = ss.length) (h : Sat w0 w (Row kH tL v (hs ++ [(none, 0, 0)]) :: (Ins hs ss ++ L))) : Sat w0 w (Shs v (ss ++ [[]]) :: L) := by
  refine Shs.mk (hs := hs ++ [(none, 0, 0)]) (by rw [List.length_append, List.length_append, hl]; rfl) ?_
  rw [Ins_snoc _ _ hl]
  refine Sat.perm (Sat.nilRow kO tO h) ?_
  refine (List.Perm.swap _ _ _).trans (List.Perm.cons _ ?_)
  rw [List.append_assoc]
  exact List.perm_middle.symm
theorem Pm.new {w0 w : World} {L : List Asn} {g : Nat} {ver : Int} (h : Sat w0 w (Blk g #[.int .i64 ver, .slice none 0 0, .slice none 0 0] tP :: L)) : Sat w0 w (Pm g ver [] [] :: L) := by
  have h1 := Sat.nilRow (Kd.int .i64) tI (Shs.nil h)
  exact Sat.any (.slice none 0 0, .slice none 0 0) (Sat.closed (h1.nth 2 rfl))
theorem Pm.open {w0 w : World} {L : List Asn} {g : Nat} {ver : Int} {ns : List Int} {ss : List (List Ow)} (h : Sat w0 w (Pm g ver ns ss :: L)) : ∃ A c A' c', ns.length ≤ c ∧ ss.length ≤ c' ∧ Sat w0 w (Blk g #[.int .i64 ver, .slice A ns.length c, .slice A' ss.length c'] tP :: Row (Kd.int .i64) tI (.slice A ns.length c) ns :: Shs (.slice A' ss.length c') ss :: L) := by
  obtain ⟨⟨v1, v2⟩, h1⟩ := h.some_
  have h2 := h1.opened
  obtain ⟨A, c, e, hc, _⟩ := (h2.nth 1 rfl).rowSlice
  obtain ⟨A', c', e', hc', _⟩ := Shs.read (h2.nth 2 rfl)
  simp only at e e' h2
  subst e e'
  exact ⟨A, c, A', c', hc, hc', h2⟩
theorem Pm.mk {w0 w : World} {L : List Asn} {g : Nat} {ver : Int} {ns : List Int} {ss : List (List Ow)} {v1 v2 : Value} (h : Sat w0 w (Blk g #[.int .i64 ver, v1, v2] tP :: Row (Kd.int .i64) tI v1 ns :: Shs v2 ss :: L)) : Sat w0 w (Pm g ver ns ss :: L) := Sat.any (v1, v2) (Sat.closed h)
/-- What a call tells that hands back a placement and an error. -/
def PTold (w : World) (r : Int × List Int × List (List Ow) × Int) (e : Ending) (w' : World) : Prop := ∃ v1_ v2_ : Value, e = .returned (.tuple #[.agg #[.int .i64 r.1, v1_, v2_], .int .i64 r.2.2.2]) ∧ Kd.R (Kd.int .i64) tI w' w.heap.size (fun _ => True) v1_ r.2.1 ∧ Kd.S (Kd.slice tO kO) tL w' w.heap.size (fun _ => True) v2_ r.2.2.1 ∧ Below w.heap.size w w'
theorem PTold.nil {w w' : World} {c : Int} (h : Below w.heap.size w w') : PTold w (0, [], [], c) (.returned (.tuple #[.agg #[.int .i64 0, .slice none 0 0, .slice none 0 0], .int .i64 c])) w' := ⟨_, _, rfl, Kd.R_nil _ _ _ _ _, Kd.S_nil _ _ _ _ _, h⟩
theorem PTold.of {w w' : World} {L : List Asn} {ver c : Int} {ns : List Int} {ss : List (List Ow)} {v1 v2 : Value} (h : Sat w w' (Row (Kd.int .i64) tI v1 ns :: Shs v2 ss :: L)) : PTold w (ver, ns, ss, c) (.returned (.tuple #[.agg #[.int .i64 ver, v1, v2], .int .i64 c])) w' := by
  obtain ⟨G, hg, _⟩ := h.get
  exact ⟨v1, v2, rfl, Kd.R_mono hg fun _ _ => trivial, Kd.S_mono (Shs.S (h.nth 1 rfl)) fun _ _ => trivial, h.below⟩
theorem infoL : (Try.prog.info? tL).map (fun i => (i.zero, i.size, i.bytes)) = some (some (.slice none 0 0), 1, 24) := by kernel_rfl
def In.T7 : Bool × List (List Nat × List Nat) := (true, [([], []), ([], []), ([0, 1], [0, 1]), ([2], [2]), ([3], [3]), ([4], [4]), ([5, 4], [5]), ([6], [6]), ([7, 6], [6, 7]), ([6], [6]), ([6], [6]), ([9, 10, 6], [6, 9, 10]), ([11, 6], [6, 11]), ([8, 12, 6, 6], [6, 8, 12]), ([6, 13], [6, 13])])
def In.B7 : List Nat := [0, 0, 3, 7, 15, 31, 63, 127, 255, 127, 127, 1663, 3711, 8191, 16383]
theorem In.tab7 : rtab .any (opsOf Try.f12 7) = In.T7 := by kernel_rfl
theorem In.bits7 : waitsOk In.T7.2 In.B7 = true := by kernel_rfl
def In.T9 : Bool × List (List Nat × List Nat) := (true, [([], []), ([0], [0]), ([], []), ([], []), ([2, 3], [2, 3]), ([4], [4]), ([1, 5], [1, 5]), ([0, 1, 2, 3, 4, 5, 6], []), ([7, 6, 6, 0, 1, 2, 3, 4, 5, 6], [6, 7])])
def In.B9 : List Nat := [0, 1, 0, 0, 12, 28, 63, 127, 255]
theorem In.tab9 : rtab .any (opsOf Try.f12 9) = In.T9 := by kernel_rfl
theorem In.bits9 : waitsOk In.T9.2 In.B9 = true := by kernel_rfl
def In.T19 : Bool × List (List Nat × List Nat) := (true, [([], []), ([0], [0]), ([], []), ([], []), ([3], [3]), ([], []), ([4, 5], [4, 5]), ([6], [6]), ([], []), ([], []), ([8, 9], [8, 9]), ([10], [10]), ([7, 11, 10], [7, 11]), ([1, 2, 0, 1, 2, 3, 4, 5, 6, 7, 8, 9, 10, 11, 12], [1, 2]), ([13, 12, 12, 0, 1, 2, 3, 4, 5, 6, 7, 8, 9, 10, 11, 12], [12, 13])])
def In.B19 : List Nat := [0, 1, 0, 0, 8, 0, 56, 120, 0, 0, 768, 1792, 4088, 8191, 16383]
theorem In.tab19 : rtab .any (opsOf Try.f12 19) = In.T19 := by kernel_rfl
theorem In.bits19 : waitsOk In.T19.2 In.B19 = true := by kernel_rfl
set_option maxHeartbeats 8000000 in
set_option maxRecDepth 100000 in
theorem rinit_calls (w : World) (A0 : Option Addr) (c0 : Nat) (l : List Int) (sh : Int) (hl : l.length ≤ 1000000) (hC : Kd.C (Kd.int .i64) w A0 l.length l) :
    Calls Try.prog 12 #[.slice A0 l.length c0, .int .i64 sh] w fun e w' => PTold w (initF l sh) e w' := by
  by_cases h3 : l.length < 3
  · have k1 : decide ((l.length : Int) < 3) = true := decide_eq_true (by omega)
    have k2 : decide (l.length < 3) = true := decide_eq_true h3
    have HF := Aside0.mk (show initF l sh = (0, [], [], 140) from by unfold initF; rw [if_pos h3])
    have H0 := Aside0.mk ((Sat.start w).newBlk zP tP)
    clear h3 hC
    go_enter Try.func12, Try.ntmps12
    go_wp2
    rw [HF.out]
    refine bodyPost_ret (results_ct rfl _ _ w.heap.size tP zP (0, 0) _ rfl H0.out.blk Try.underlying25 rfl (by kernel_rfl)) rfl ?_
    exact PTold.nil H0.out.below
  have k1 : decide ((l.length : Int) < 3) = false := decide_eq_false (by omega)
  have k2 : decide (l.length < 3) = false := decide_eq_false h3
  have HF := Aside0.mk (show initF l sh = match initN l [] with | none => (0, [], [], 140) | some ns => if sh < 1 ∨ 8 < sh then (0, [], [], 1) else (1, ns, initS ns sh.toNat [], 0) from by unfold initF; rw [if_neg h3])
  have H0 := Aside0.mk ((Sat.start w).newBlk zP tP)
  obtain ⟨n, hn⟩ : ∃ n, l.length = n := ⟨_, rfl⟩
  have HN := Aside0.mk hn
  have HC := Aside0.mk hC
  rw [hn] at HC hl k1 k2 ⊢
  clear hC h3 hn
  have h1 := H0.out.newBlk #[.int .i64 1, .slice none 0 0, .slice none 0 0] tP
  rw [alloc_size] at h1
  have H1 := Aside0.mk h1
  clear h1
  go_enter Try.func12, Try.ntmps12
  go_upto_region 4 with (fail)
  generalize w.heap.size + 1 = g6 at H1 ⊢
  generalize w.heap.size = g4 at H1 ⊢
  generalize (w.alloc (.cells zP tP)).alloc (.cells #[.int .i64 1, .slice none 0 0, .slice none 0 0] tP) = wb at H1 ⊢
  clear H0
  go_wp2
  go_loopw [7] (fun v7 wr => ∃ (i : Nat) (acc : List Int) (nv : Value), i ≤ n ∧ v7 = .int .i64 i ∧ acc.length ≤ 8 ∧ Aside0 (initN (l.drop i) acc = initN l []) ∧ Aside0 (Sat w wr (Blk g6 #[.int .i64 1, nv, .slice none 0 0] tP :: Row (Kd.int .i64) tI nv acc :: Blk g4 zP tP :: []))) (fun v7 _ => (n - intOf v7).toNat)
  case atStart => exact ⟨0, [], _, Nat.zero_le _, rfl, Nat.zero_le _, ⟨rfl⟩, ⟨(Sat.nilRow (Kd.int .i64) tI H1.out).nth 1 rfl⟩⟩
  case round =>
    obtain ⟨i, acc, nv, hin, rfl, hal, HI, HS⟩ := hrel
    clear H1
    obtain ⟨A1, c1, rfl, hc1, hC1⟩ := (HS.out.nth 1 rfl).rowSlice
    have HCA := Aside0.mk (show ∀ w' : World, (∀ k, (w.heap.size ≤ k ∧ k < wr.heap.size) → w'.heap[k]? = wr.heap[k]?) → (Kd.int .i64).C w' A1 acc.length acc from by
      obtain ⟨G, hg, hG⟩ := (HS.out.nth 1 rfl).get
      exact fun w' hw' => (Kd.R_reads' (Kd.R_move hg (fun k hk => hw' k (hG k hk)))).2.2)
    have HHS := Aside0.mk (fun (w' : World) (x : Int) (hC' : (Kd.int .i64).C w' A1 acc.length acc) => thermographref14_has.calls 100 A1 c1 acc x _ w' hC' hc1 (has_f x (by omega) (by omega)))
    have HWI := Aside0.mk (fun (w' : World) (x : Int) (hC' : (Kd.int .i64).C w' A1 acc.length acc) => thermographref14_with.calls 2000001 A1 c1 acc x _ w' hC' hc1 (with_f x (by omega) (by omega)))
    have HLA := Aside0.mk (show acc.length ≤ 8 from hal)
    obtain ⟨m1, hm1⟩ : ∃ m1, acc.length = m1 := ⟨_, rfl⟩
    have HM1 := Aside0.mk hm1
    rw [hm1] at HS HCA HHS HWI hc1
    by_cases hi : i < n
    · have e1 : decide ((i : Int) < (n : Int)) = true := decide_eq_true (by omega)
      have e2 : decide (i < n) = true := decide_eq_true hi
      have i1 : (0 : Int) ≤ (i : Int) := by omega
      have i2 : (i : Int) < (n : Int) := by omega
      obtain ⟨ad, hA, q0⟩ := at_ints (Kd.C_below HC.out HS.out.below) i hi
      subst hA
      have hdr : l.drop i = l.getD i 0 :: l.drop (i + 1) := by
        have := HN.out
        rw [drop_at (by omega), List.getD_eq_getElem?_getD, List.getElem?_eq_getElem (by omega)]
        rfl
      have hI := HI.out
      rw [hdr, initN] at hI
      obtain ⟨x, hx⟩ : ∃ x, l.getD i 0 = x := ⟨_, rfl⟩
      rw [hx] at q0 hI
      have HX := Aside0.mk hx
      clear hx hdr HI hC1 hm1 hal
      have b1 := HS.out.cell 1 (v := .slice A1 m1 c1) rfl
      cases hnd : nodeB x with
      | false =>
        have HND := Aside0.mk (show thermographref14_node.f x = some false from by rw [node_eq, hnd])
        have HR := Aside0.mk (show initN l [] = none from by rw [← hI, if_neg (by rw [hnd]; simp)])
        clear hnd hI
        go_upto_region 7 with (fail)
        refine start_ (n := 15) (S := fun w' => w'.cell? (ad.add i) = some (.int .i64 x)) (ds := []) #[false, false, false, false, false, false, false, false, false, false, false, false, false, false, false] (by kernel_rfl) rfl rfl (q0) (fun hHeld => ?_)
        refine with_tabW In.tab7 In.bits7 (fun HT_ HW_ => ?_)
        refine pure_ (i := 0) (N := some 21) (v := ?_) (a' := ?_) #[true, false, false, false, false, false, false, false, false, false, false, false, false, false, false] rfl rfl (any_of HT_.out (by kernel_rfl)) (fun _ _ _ h => h) (Or.inl ⟨by rfl, ?_⟩) ?_ ?_
        rotate_left
        · intro w'
          go_simp
          with_reducible rfl
        rotate_left
        · simp only [Act.put, List.setIfInBounds_toArray, List.set_cons_zero, List.set_cons_succ, i64_w, i32_w]
          rfl
        refine pure_ (i := 1) (N := some 22) (v := ?_) (a' := ?_) #[true, true, false, false, false, false, false, false, false, false, false, false, false, false, false] rfl rfl (any_of HT_.out (by kernel_rfl)) (fun _ _ _ h => h) (Or.inl ⟨by rfl, ?_⟩) ?_ ?_
        rotate_left
        · intro w'
          go_simp
          with_reducible rfl
        rotate_left
        · simp only [Act.put, List.setIfInBounds_toArray, List.set_cons_zero, List.set_cons_succ, i64_w, i32_w]
          rfl
        refine pure_ (i := 2) (N := some 23) (v := ?_) (a' := ?_) #[true, true, true, false, false, false, false, false, false, false, false, false, false, false, false] rfl rfl (any_of HT_.out (by kernel_rfl)) (fun _ _ _ h => h) (Or.inl ⟨by rfl, ?_⟩) ?_ ?_
        rotate_left
        · intro w'
          go_simp
          with_reducible rfl
        rotate_left
        · simp only [Act.put, List.setIfInBounds_toArray, List.set_cons_zero, List.set_cons_succ, i64_w, i32_w]
          rfl
        refine take_ (i := 3) (N := some 24) (v := ?_) (a' := ?_) #[true, true, true, true, false, false, false, false, false, false, false, false, false, false, false] rfl rfl (take_ofW HT_.out HW_.out (by kernel_rfl)) (fun _ _ _ h => h) (Or.inl ⟨by rfl, ?_⟩) hHeld ?_ ?_
        rotate_left
        · intro w' s0
          go_simp
          with_reducible rfl
        rotate_left
        · simp only [Act.put, List.setIfInBounds_toArray, List.set_cons_zero, List.set_cons_succ, i64_w, i32_w]
          rfl
        refine one_ (i := 4) (N := some 25) #[true, true, true, true, true, false, false, false, false, false, false, false, false, false, false] rfl rfl (one_of HT_.out (by kernel_rfl)) (by decide) (fun K hK => ?_)
        refine goes_ Try.func38 (by kernel_rfl) rfl #[.int .i64 x] (by rfl) rfl rfl (by simp only [List.map_toArray, List.map_cons, List.map_nil]; rfl) ?_
        with_reducible refine (thermographref14_node.calls x _ _ HND.out).mono ?_
        rintro e w3 ⟨rfl, hd3⟩
        refine ⟨_, rfl, ?_⟩
        obtain ⟨⟨k3, hk3⟩⟩ := hd3
        subst hk3
        refine hK.out _ _ (q0) (fun hHeld => ?_)
        clear hK K
        refine norm_ (a' := ?_) ?_ ?_
        rotate_left
        · show Act.put _ (some 25) _ = _
          simp only [Act.put, List.setIfInBounds_toArray, List.set_cons_zero, List.set_cons_succ, i64_w, i32_w]
          rfl
        refine pure_ (i := 5) (N := some 26) (v := ?_) (a' := ?_) #[true, true, true, true, true, true, false, false, false, false, false, false, false, false, false] rfl rfl (any_of HT_.out (by kernel_rfl)) (fun _ _ _ h => h) (Or.inl ⟨by rfl, ?_⟩) ?_ ?_
        rotate_left
        · intro w'
          go_simp
          with_reducible rfl
        rotate_left
        · simp only [Act.put, List.setIfInBounds_toArray, List.set_cons_zero, List.set_cons_succ, i64_w, i32_w]
          rfl
        refine pure_ (i := 6) (N := some 27) (v := ?_) (a' := ?_) #[true, true, true, true, true, true, true, false, false, false, false, false, false, false, false] rfl rfl (any_of HT_.out (by kernel_rfl)) (fun _ _ _ h => h) (Or.inl ⟨by rfl, ?_⟩) ?_ ?_
        rotate_left
        · intro w'
          go_simp
          with_reducible rfl
        rotate_left
        · simp only [Act.put, List.setIfInBounds_toArray, List.set_cons_zero, List.set_cons_succ, i64_w, i32_w]
          rfl
        refine pure_ (i := 7) (N := some 28) (v := undef) (a' := ?_) #[true, true, true, true, true, true, true, true, false, false, false, false, false, false, false] rfl rfl (any_of HT_.out (by kernel_rfl)) (fun _ _ _ h => h) (Or.inr ⟨by rfl, rfl⟩) ?_ ?_
        rotate_left
        · simp only [Act.put, List.setIfInBounds_toArray, List.set_cons_zero, List.set_cons_succ, i64_w, i32_w]
          rfl
        refine pure_ (i := 8) (N := some 29) (v := undef) (a' := ?_) #[true, true, true, true, true, true, true, true, true, false, false, false, false, false, false] rfl rfl (any_of HT_.out (by kernel_rfl)) (fun _ _ _ h => h) (Or.inr ⟨by rfl, rfl⟩) ?_ ?_
        rotate_left
        · simp only [Act.put, List.setIfInBounds_toArray, List.set_cons_zero, List.set_cons_succ, i64_w, i32_w]
          rfl
        refine pure_ (i := 9) (N := some 30) (v := undef) (a' := ?_) #[true, true, true, true, true, true, true, true, true, true, false, false, false, false, false] rfl rfl (any_of HT_.out (by kernel_rfl)) (fun _ _ _ h => h) (Or.inr ⟨by rfl, rfl⟩) ?_ ?_
        rotate_left
        · simp only [Act.put, List.setIfInBounds_toArray, List.set_cons_zero, List.set_cons_succ, i64_w, i32_w]
          rfl
        refine pure_ (i := 10) (N := some 31) (v := undef) (a' := ?_) #[true, true, true, true, true, true, true, true, true, true, true, false, false, false, false] rfl rfl (any_of HT_.out (by kernel_rfl)) (fun _ _ _ h => h) (Or.inr ⟨by rfl, rfl⟩) ?_ ?_
        rotate_left
        · simp only [Act.put, List.setIfInBounds_toArray, List.set_cons_zero, List.set_cons_succ, i64_w, i32_w]
          rfl
        refine pure_ (i := 11) (N := some 32) (v := undef) (a' := ?_) #[true, true, true, true, true, true, true, true, true, true, true, true, false, false, false] rfl rfl (any_of HT_.out (by kernel_rfl)) (fun _ _ _ h => h) (Or.inr ⟨by rfl, rfl⟩) ?_ ?_
        rotate_left
        · simp only [Act.put, List.setIfInBounds_toArray, List.set_cons_zero, List.set_cons_succ, i64_w, i32_w]
          rfl
        refine pure_ (i := 12) (N := some 33) (v := undef) (a' := ?_) #[true, true, true, true, true, true, true, true, true, true, true, true, true, false, false] rfl rfl (any_of HT_.out (by kernel_rfl)) (fun _ _ _ h => h) (Or.inr ⟨by rfl, rfl⟩) ?_ ?_
        rotate_left
        · simp only [Act.put, List.setIfInBounds_toArray, List.set_cons_zero, List.set_cons_succ, i64_w, i32_w]
          rfl
        refine pure_ (i := 13) (N := some 34) (v := undef) (a' := ?_) #[true, true, true, true, true, true, true, true, true, true, true, true, true, true, false] rfl rfl (any_of HT_.out (by kernel_rfl)) (fun _ _ _ h => h) (Or.inr ⟨by rfl, rfl⟩) ?_ ?_
        rotate_left
        · simp only [Act.put, List.setIfInBounds_toArray, List.set_cons_zero, List.set_cons_succ, i64_w, i32_w]
          rfl
        refine pure_ (i := 14) (N := some 35) (v := ?_) (a' := ?_) #[true, true, true, true, true, true, true, true, true, true, true, true, true, true, true] rfl rfl (any_of HT_.out (by kernel_rfl)) (fun _ _ _ h => h) (Or.inl ⟨by rfl, ?_⟩) ?_ ?_
        rotate_left
        · intro w'
          go_simp
          with_reducible rfl
        rotate_left
        · simp only [Act.put, List.setIfInBounds_toArray, List.set_cons_zero, List.set_cons_succ, i64_w, i32_w]
          rfl
        refine done_ (done_of HT_.out (by kernel_rfl)) ?_
        have HX := Aside0.mk ((HS.out.drewN (1 + k3)).nth 2 rfl)
        have HFR := Aside0.mk (show initF l sh = (0, [], [], 140) from by rw [HF.out, HR.out])
        go_wp2_with (first | ((with_reducible refine gate_store (p := 4) rfl ?_); go_loud (refine wpList_store_row rfl tP (.tmp 4) (.tmp 36) rfl g4 #[.int .i64 0, .slice none 0 0, .slice none 0 0] rfl rfl tP _ HX.out.blk (by kernel_rfl) rfl (by simp [Value.oneCell']) ?_; have HZZ := Aside0.mk (Sat.setRow HX.out #[.int .i64 0, .slice none 0 0, .slice none 0 0]))))
        rw [HFR.out]
        refine bodyPost_ret (results_ct rfl _ _ g4 tP #[.int .i64 0, .slice none 0 0, .slice none 0 0] (0, 0) _ rfl HZZ.out.blk Try.underlying25 rfl (by kernel_rfl)) rfl ?_
        exact PTold.nil HZZ.out.below
      | true =>
        have HND := Aside0.mk (show thermographref14_node.f x = some true from by rw [node_eq, hnd])
        by_cases hxa : x ∈ acc
        · have d5 : decide (x ∈ acc) = true := decide_eq_true hxa
          have HR := Aside0.mk (show initN l [] = none from by rw [← hI, if_neg (fun h => h.2 hxa)])
          clear hnd hI hxa
          go_upto_region 7 with (fail)
          refine start_ (n := 15) (S := fun w' => w'.cell? (ad.add i) = some (.int .i64 x) ∧ w'.cell? ⟨g6, 1, none⟩ = some (.slice A1 m1 c1)) (ds := []) #[false, false, false, false, false, false, false, false, false, false, false, false, false, false, false] (by kernel_rfl) rfl rfl ⟨q0, b1⟩ (fun hHeld => ?_)
          refine with_tabW In.tab7 In.bits7 (fun HT_ HW_ => ?_)
          refine pure_ (i := 0) (N := some 21) (v := ?_) (a' := ?_) #[true, false, false, false, false, false, false, false, false, false, false, false, false, false, false] rfl rfl (any_of HT_.out (by kernel_rfl)) (fun _ _ _ h => h) (Or.inl ⟨by rfl, ?_⟩) ?_ ?_
          rotate_left
          · intro w'
            go_simp
            with_reducible rfl
          rotate_left
          · simp only [Act.put, List.setIfInBounds_toArray, List.set_cons_zero, List.set_cons_succ, i64_w, i32_w]
            rfl
          refine pure_ (i := 1) (N := some 22) (v := ?_) (a' := ?_) #[true, true, false, false, false, false, false, false, false, false, false, false, false, false, false] rfl rfl (any_of HT_.out (by kernel_rfl)) (fun _ _ _ h => h) (Or.inl ⟨by rfl, ?_⟩) ?_ ?_
          rotate_left
          · intro w'
            go_simp
            with_reducible rfl
          rotate_left
          · simp only [Act.put, List.setIfInBounds_toArray, List.set_cons_zero, List.set_cons_succ, i64_w, i32_w]
            rfl
          refine pure_ (i := 2) (N := some 23) (v := ?_) (a' := ?_) #[true, true, true, false, false, false, false, false, false, false, false, false, false, false, false] rfl rfl (any_of HT_.out (by kernel_rfl)) (fun _ _ _ h => h) (Or.inl ⟨by rfl, ?_⟩) ?_ ?_
          rotate_left
          · intro w'
            go_simp
            with_reducible rfl
          rotate_left
          · simp only [Act.put, List.setIfInBounds_toArray, List.set_cons_zero, List.set_cons_succ, i64_w, i32_w]
            rfl
          refine take_ (i := 3) (N := some 24) (v := ?_) (a' := ?_) #[true, true, true, true, false, false, false, false, false, false, false, false, false, false, false] rfl rfl (take_ofW HT_.out HW_.out (by kernel_rfl)) (fun _ _ _ h => h) (Or.inl ⟨by rfl, ?_⟩) hHeld ?_ ?_
          rotate_left
          · rintro w' ⟨s0, s1⟩
            go_simp
            with_reducible rfl
          rotate_left
          · simp only [Act.put, List.setIfInBounds_toArray, List.set_cons_zero, List.set_cons_succ, i64_w, i32_w]
            rfl
          refine one_ (i := 4) (N := some 25) #[true, true, true, true, true, false, false, false, false, false, false, false, false, false, false] rfl rfl (one_of HT_.out (by kernel_rfl)) (by decide) (fun K hK => ?_)
          refine goes_ Try.func38 (by kernel_rfl) rfl #[.int .i64 x] (by rfl) rfl rfl (by simp only [List.map_toArray, List.map_cons, List.map_nil]; rfl) ?_
          with_reducible refine (thermographref14_node.calls x _ _ HND.out).mono ?_
          rintro e w3 ⟨rfl, hd3⟩
          refine ⟨_, rfl, ?_⟩
          obtain ⟨⟨k3, hk3⟩⟩ := hd3
          subst hk3
          have HCK3 := Aside0.mk (HCA.out ((wr.drew).drewN k3) (fun _ _ => rfl))
          refine hK.out _ _ ⟨q0, b1⟩ (fun hHeld => ?_)
          clear hK K
          refine norm_ (a' := ?_) ?_ ?_
          rotate_left
          · show Act.put _ (some 25) _ = _
            simp only [Act.put, List.setIfInBounds_toArray, List.set_cons_zero, List.set_cons_succ, i64_w, i32_w]
            rfl
          refine pure_ (i := 5) (N := some 26) (v := ?_) (a' := ?_) #[true, true, true, true, true, true, false, false, false, false, false, false, false, false, false] rfl rfl (any_of HT_.out (by kernel_rfl)) (fun _ _ _ h => h) (Or.inl ⟨by rfl, ?_⟩) ?_ ?_
          rotate_left
          · intro w'
            go_simp
            with_reducible rfl
          rotate_left
          · simp only [Act.put, List.setIfInBounds_toArray, List.set_cons_zero, List.set_cons_succ, i64_w, i32_w]
            rfl
          refine pure_ (i := 6) (N := some 27) (v := ?_) (a' := ?_) #[true, true, true, true, true, true, true, false, false, false, false, false, false, false, false] rfl rfl (any_of HT_.out (by kernel_rfl)) (fun _ _ _ h => h) (Or.inl ⟨by rfl, ?_⟩) ?_ ?_
          rotate_left
          · intro w'
            go_simp
            with_reducible rfl
          rotate_left
          · simp only [Act.put, List.setIfInBounds_toArray, List.set_cons_zero, List.set_cons_succ, i64_w, i32_w]
            rfl
          refine pure_ (i := 7) (N := some 28) (v := ?_) (a' := ?_) #[true, true, true, true, true, true, true, true, false, false, false, false, false, false, false] rfl rfl (any_of HT_.out (by kernel_rfl)) (fun _ _ _ h => h) (Or.inl ⟨by rfl, ?_⟩) ?_ ?_
          rotate_left
          · intro w'
            go_simp
            with_reducible rfl
          rotate_left
          · simp only [Act.put, List.setIfInBounds_toArray, List.set_cons_zero, List.set_cons_succ, i64_w, i32_w]
            rfl
          refine pure_ (i := 9) (N := some 30) (v := ?_) (a' := ?_) #[true, true, true, true, true, true, true, true, false, true, false, false, false, false, false] rfl rfl (any_of HT_.out (by kernel_rfl)) (fun _ _ _ h => h) (Or.inl ⟨by rfl, ?_⟩) ?_ ?_
          rotate_left
          · intro w'
            go_simp
            with_reducible rfl
          rotate_left
          · simp only [Act.put, List.setIfInBounds_toArray, List.set_cons_zero, List.set_cons_succ, i64_w, i32_w]
            rfl
          refine pure_ (i := 10) (N := some 31) (v := ?_) (a' := ?_) #[true, true, true, true, true, true, true, true, false, true, true, false, false, false, false] rfl rfl (any_of HT_.out (by kernel_rfl)) (fun _ _ _ h => h) (Or.inl ⟨by rfl, ?_⟩) ?_ ?_
          rotate_left
          · intro w'
            go_simp
            with_reducible rfl
          rotate_left
          · simp only [Act.put, List.setIfInBounds_toArray, List.set_cons_zero, List.set_cons_succ, i64_w, i32_w]
            rfl
          refine pure_ (i := 11) (N := some 32) (v := ?_) (a' := ?_) #[true, true, true, true, true, true, true, true, false, true, true, true, false, false, false] rfl rfl (any_of HT_.out (by kernel_rfl)) (fun _ _ _ h => h) (Or.inl ⟨by rfl, ?_⟩) ?_ ?_
          rotate_left
          · intro w'
            go_simp
            with_reducible rfl
          rotate_left
          · simp only [Act.put, List.setIfInBounds_toArray, List.set_cons_zero, List.set_cons_succ, i64_w, i32_w]
            rfl
          refine take_ (i := 8) (N := some 29) (v := ?_) (a' := ?_) #[true, true, true, true, true, true, true, true, true, true, true, true, false, false, false] rfl rfl (take_ofW HT_.out HW_.out (by kernel_rfl)) (fun _ _ _ h => h) (Or.inl ⟨by rfl, ?_⟩) hHeld ?_ ?_
          rotate_left
          · rintro w' ⟨s0, s1⟩
            go_simp
            with_reducible rfl
          rotate_left
          · simp only [Act.put, List.setIfInBounds_toArray, List.set_cons_zero, List.set_cons_succ, i64_w, i32_w]
            rfl
          refine take_ (i := 12) (N := some 33) (v := ?_) (a' := ?_) #[true, true, true, true, true, true, true, true, true, true, true, true, true, false, false] rfl rfl (take_ofW HT_.out HW_.out (by kernel_rfl)) (fun _ _ _ h => h) (Or.inl ⟨by rfl, ?_⟩) hHeld ?_ ?_
          rotate_left
          · rintro w' ⟨s0, s1⟩
            go_simp
            with_reducible rfl
          rotate_left
          · simp only [Act.put, List.setIfInBounds_toArray, List.set_cons_zero, List.set_cons_succ, i64_w, i32_w]
            rfl
          refine one_ (i := 13) (N := some 34) #[true, true, true, true, true, true, true, true, true, true, true, true, true, true, false] rfl rfl (one_of HT_.out (by kernel_rfl)) (by decide) (fun K hK => ?_)
          refine goes_ Try.func39 (by kernel_rfl) rfl #[.slice A1 m1 c1, .int .i64 x] (by rfl) rfl rfl (by simp only [List.map_toArray, List.map_cons, List.map_nil]; rfl) ?_
          with_reducible refine (HHS.out _ x HCK3.out).mono ?_
          rintro e w4 ⟨rfl, hd4⟩
          refine ⟨_, rfl, ?_⟩
          obtain ⟨⟨k4, hk4⟩⟩ := hd4
          subst hk4
          refine hK.out _ _ ⟨q0, b1⟩ (fun hHeld => ?_)
          clear hK K
          refine norm_ (a' := ?_) ?_ ?_
          rotate_left
          · show Act.put _ (some 34) _ = _
            simp only [Act.put, List.setIfInBounds_toArray, List.set_cons_zero, List.set_cons_succ, i64_w, i32_w]
            rfl
          refine pure_ (i := 14) (N := some 35) (v := ?_) (a' := ?_) #[true, true, true, true, true, true, true, true, true, true, true, true, true, true, true] rfl rfl (any_of HT_.out (by kernel_rfl)) (fun _ _ _ h => h) (Or.inl ⟨by rfl, ?_⟩) ?_ ?_
          rotate_left
          · intro w'
            go_simp
            with_reducible rfl
          rotate_left
          · simp only [Act.put, List.setIfInBounds_toArray, List.set_cons_zero, List.set_cons_succ, i64_w, i32_w]
            rfl
          refine done_ (done_of HT_.out (by kernel_rfl)) ?_
          rw [d5]
          have HX4 := Aside0.mk (((HS.out.drew.drewN k3).drewN k4).nth 2 rfl)
          generalize ((wr.drew.drewN k3).drewN k4) = wz at HX4 ⊢
          have HFR := Aside0.mk (show initF l sh = (0, [], [], 140) from by rw [HF.out, HR.out])
          go_wp2_with (first | ((with_reducible refine gate_store (p := 4) rfl ?_); go_loud (refine wpList_store_row rfl tP (.tmp 4) (.tmp 36) rfl g4 #[.int .i64 0, .slice none 0 0, .slice none 0 0] rfl rfl tP _ HX4.out.blk (by kernel_rfl) rfl (by simp [Value.oneCell']) ?_; have HZZ := Aside0.mk (Sat.setRow HX4.out #[.int .i64 0, .slice none 0 0, .slice none 0 0]))))
          rw [HFR.out]
          refine bodyPost_ret (results_ct rfl _ _ g4 tP #[.int .i64 0, .slice none 0 0, .slice none 0 0] (0, 0) _ rfl HZZ.out.blk Try.underlying25 rfl (by kernel_rfl)) rfl ?_
          exact PTold.nil HZZ.out.below
        · have d5 : decide (x ∈ acc) = false := decide_eq_false hxa
          have HR := Aside0.mk (show initN (l.drop (i + 1)) (withL acc x) = initN l [] from by rw [← hI, if_pos ⟨hnd, hxa⟩])
          clear hnd hI hxa
          go_upto_region 7 with (fail)
          refine start_ (n := 15) (S := fun w' => w'.cell? (ad.add i) = some (.int .i64 x) ∧ w'.cell? ⟨g6, 1, none⟩ = some (.slice A1 m1 c1)) (ds := []) #[false, false, false, false, false, false, false, false, false, false, false, false, false, false, false] (by kernel_rfl) rfl rfl ⟨q0, b1⟩ (fun hHeld => ?_)
          refine with_tabW In.tab7 In.bits7 (fun HT_ HW_ => ?_)
          refine pure_ (i := 0) (N := some 21) (v := ?_) (a' := ?_) #[true, false, false, false, false, false, false, false, false, false, false, false, false, false, false] rfl rfl (any_of HT_.out (by kernel_rfl)) (fun _ _ _ h => h) (Or.inl ⟨by rfl, ?_⟩) ?_ ?_
          rotate_left
          · intro w'
            go_simp
            with_reducible rfl
          rotate_left
          · simp only [Act.put, List.setIfInBounds_toArray, List.set_cons_zero, List.set_cons_succ, i64_w, i32_w]
            rfl
          refine pure_ (i := 1) (N := some 22) (v := ?_) (a' := ?_) #[true, true, false, false, false, false, false, false, false, false, false, false, false, false, false] rfl rfl (any_of HT_.out (by kernel_rfl)) (fun _ _ _ h => h) (Or.inl ⟨by rfl, ?_⟩) ?_ ?_
          rotate_left
          · intro w'
            go_simp
            with_reducible rfl
          rotate_left
          · simp only [Act.put, List.setIfInBounds_toArray, List.set_cons_zero, List.set_cons_succ, i64_w, i32_w]
            rfl
          refine pure_ (i := 2) (N := some 23) (v := ?_) (a' := ?_) #[true, true, true, false, false, false, false, false, false, false, false, false, false, false, false] rfl rfl (any_of HT_.out (by kernel_rfl)) (fun _ _ _ h => h) (Or.inl ⟨by rfl, ?_⟩) ?_ ?_
          rotate_left
          · intro w'
            go_simp
            with_reducible rfl
          rotate_left
          · simp only [Act.put, List.setIfInBounds_toArray, List.set_cons_zero, List.set_cons_succ, i64_w, i32_w]
            rfl
          refine take_ (i := 3) (N := some 24) (v := ?_) (a' := ?_) #[true, true, true, true, false, false, false, false, false, false, false, false, false, false, false] rfl rfl (take_ofW HT_.out HW_.out (by kernel_rfl)) (fun _ _ _ h => h) (Or.inl ⟨by rfl, ?_⟩) hHeld ?_ ?_
          rotate_left
          · rintro w' ⟨s0, s1⟩
            go_simp
            with_reducible rfl
          rotate_left
          · simp only [Act.put, List.setIfInBounds_toArray, List.set_cons_zero, List.set_cons_succ, i64_w, i32_w]
            rfl
          refine one_ (i := 4) (N := some 25) #[true, true, true, true, true, false, false, false, false, false, false, false, false, false, false] rfl rfl (one_of HT_.out (by kernel_rfl)) (by decide) (fun K hK => ?_)
          refine goes_ Try.func38 (by kernel_rfl) rfl #[.int .i64 x] (by rfl) rfl rfl (by simp only [List.map_toArray, List.map_cons, List.map_nil]; rfl) ?_
          with_reducible refine (thermographref14_node.calls x _ _ HND.out).mono ?_
          rintro e w3 ⟨rfl, hd3⟩
          refine ⟨_, rfl, ?_⟩
          obtain ⟨⟨k3, hk3⟩⟩ := hd3
          subst hk3
          have HCK3 := Aside0.mk (HCA.out ((wr.drew).drewN k3) (fun _ _ => rfl))
          refine hK.out _ _ ⟨q0, b1⟩ (fun hHeld => ?_)
          clear hK K
          refine norm_ (a' := ?_) ?_ ?_
          rotate_left
          · show Act.put _ (some 25) _ = _
            simp only [Act.put, List.setIfInBounds_toArray, List.set_cons_zero, List.set_cons_succ, i64_w, i32_w]
            rfl
          refine pure_ (i := 5) (N := some 26) (v := ?_) (a' := ?_) #[true, true, true, true, true, true, false, false, false, false, false, false, false, false, false] rfl rfl (any_of HT_.out (by kernel_rfl)) (fun _ _ _ h => h) (Or.inl ⟨by rfl, ?_⟩) ?_ ?_
          rotate_left
          · intro w'
            go_simp
            with_reducible rfl
          rotate_left
          · simp only [Act.put, List.setIfInBounds_toArray, List.set_cons_zero, List.set_cons_succ, i64_w, i32_w]
            rfl
          refine pure_ (i := 6) (N := some 27) (v := ?_) (a' := ?_) #[true, true, true, true, true, true, true, false, false, false, false, false, false, false, false] rfl rfl (any_of HT_.out (by kernel_rfl)) (fun _ _ _ h => h) (Or.inl ⟨by rfl, ?_⟩) ?_ ?_
          rotate_left
          · intro w'
            go_simp
            with_reducible rfl
          rotate_left
          · simp only [Act.put, List.setIfInBounds_toArray, List.set_cons_zero, List.set_cons_succ, i64_w, i32_w]
            rfl
          refine pure_ (i := 7) (N := some 28) (v := ?_) (a' := ?_) #[true, true, true, true, true, true, true, true, false, false, false, false, false, false, false] rfl rfl (any_of HT_.out (by kernel_rfl)) (fun _ _ _ h => h) (Or.inl ⟨by rfl, ?_⟩) ?_ ?_
          rotate_left
          · intro w'
            go_simp
            with_reducible rfl
          rotate_left
          · simp only [Act.put, List.setIfInBounds_toArray, List.set_cons_zero, List.set_cons_succ, i64_w, i32_w]
            rfl
          refine pure_ (i := 9) (N := some 30) (v := ?_) (a' := ?_) #[true, true, true, true, true, true, true, true, false, true, false, false, false, false, false] rfl rfl (any_of HT_.out (by kernel_rfl)) (fun _ _ _ h => h) (Or.inl ⟨by rfl, ?_⟩) ?_ ?_
          rotate_left
          · intro w'
            go_simp
            with_reducible rfl
          rotate_left
          · simp only [Act.put, List.setIfInBounds_toArray, List.set_cons_zero, List.set_cons_succ, i64_w, i32_w]
            rfl
          refine pure_ (i := 10) (N := some 31) (v := ?_) (a' := ?_) #[true, true, true, true, true, true, true, true, false, true, true, false, false, false, false] rfl rfl (any_of HT_.out (by kernel_rfl)) (fun _ _ _ h => h) (Or.inl ⟨by rfl, ?_⟩) ?_ ?_
          rotate_left
          · intro w'
            go_simp
            with_reducible rfl
          rotate_left
          · simp only [Act.put, List.setIfInBounds_toArray, List.set_cons_zero, List.set_cons_succ, i64_w, i32_w]
            rfl
          refine pure_ (i := 11) (N := some 32) (v := ?_) (a' := ?_) #[true, true, true, true, true, true, true, true, false, true, true, true, false, false, false] rfl rfl (any_of HT_.out (by kernel_rfl)) (fun _ _ _ h => h) (Or.inl ⟨by rfl, ?_⟩) ?_ ?_
          rotate_left
          · intro w'
            go_simp
            with_reducible rfl
          rotate_left
          · simp only [Act.put, List.setIfInBounds_toArray, List.set_cons_zero, List.set_cons_succ, i64_w, i32_w]
            rfl
          refine take_ (i := 8) (N := some 29) (v := ?_) (a' := ?_) #[true, true, true, true, true, true, true, true, true, true, true, true, false, false, false] rfl rfl (take_ofW HT_.out HW_.out (by kernel_rfl)) (fun _ _ _ h => h) (Or.inl ⟨by rfl, ?_⟩) hHeld ?_ ?_
          rotate_left
          · rintro w' ⟨s0, s1⟩
            go_simp
            with_reducible rfl
          rotate_left
          · simp only [Act.put, List.setIfInBounds_toArray, List.set_cons_zero, List.set_cons_succ, i64_w, i32_w]
            rfl
          refine take_ (i := 12) (N := some 33) (v := ?_) (a' := ?_) #[true, true, true, true, true, true, true, true, true, true, true, true, true, false, false] rfl rfl (take_ofW HT_.out HW_.out (by kernel_rfl)) (fun _ _ _ h => h) (Or.inl ⟨by rfl, ?_⟩) hHeld ?_ ?_
          rotate_left
          · rintro w' ⟨s0, s1⟩
            go_simp
            with_reducible rfl
          rotate_left
          · simp only [Act.put, List.setIfInBounds_toArray, List.set_cons_zero, List.set_cons_succ, i64_w, i32_w]
            rfl
          refine one_ (i := 13) (N := some 34) #[true, true, true, true, true, true, true, true, true, true, true, true, true, true, false] rfl rfl (one_of HT_.out (by kernel_rfl)) (by decide) (fun K hK => ?_)
          refine goes_ Try.func39 (by kernel_rfl) rfl #[.slice A1 m1 c1, .int .i64 x] (by rfl) rfl rfl (by simp only [List.map_toArray, List.map_cons, List.map_nil]; rfl) ?_
          with_reducible refine (HHS.out _ x HCK3.out).mono ?_
          rintro e w4 ⟨rfl, hd4⟩
          refine ⟨_, rfl, ?_⟩
          obtain ⟨⟨k4, hk4⟩⟩ := hd4
          subst hk4
          refine hK.out _ _ ⟨q0, b1⟩ (fun hHeld => ?_)
          clear hK K
          refine norm_ (a' := ?_) ?_ ?_
          rotate_left
          · show Act.put _ (some 34) _ = _
            simp only [Act.put, List.setIfInBounds_toArray, List.set_cons_zero, List.set_cons_succ, i64_w, i32_w]
            rfl
          refine pure_ (i := 14) (N := some 35) (v := ?_) (a' := ?_) #[true, true, true, true, true, true, true, true, true, true, true, true, true, true, true] rfl rfl (any_of HT_.out (by kernel_rfl)) (fun _ _ _ h => h) (Or.inl ⟨by rfl, ?_⟩) ?_ ?_
          rotate_left
          · intro w'
            go_simp
            with_reducible rfl
          rotate_left
          · simp only [Act.put, List.setIfInBounds_toArray, List.set_cons_zero, List.set_cons_succ, i64_w, i32_w]
            rfl
          refine done_ (done_of HT_.out (by kernel_rfl)) ?_
          rw [d5]
          go_upto_region 9 with (fail)
          have HZ := Aside0.mk ((HS.out.drew.drewN k3).drewN k4)
          have hHz := hHeld
          generalize ((wr.drew.drewN k3).drewN k4) = wz at HZ hHz ⊢
          obtain ⟨z0, z1⟩ := hHz
          have HCZ := Aside0.mk (show (Kd.int .i64).C wz A1 m1 acc from by have h := (HZ.out.nth 1 rfl).rowC; rwa [HM1.out] at h)
          have HZQ := Aside0.mk (show ∀ w5, Below wz.drew.heap.size wz.drew w5 → w5.cell? (ad.add i) = some (.int .i64 x) from fun w5 hb5 => by
            obtain ⟨ad', e, q⟩ := at_ints (Kd.C_below HC.out (below_step HZ.out.drew.below hb5)) i hi
            cases e
            rw [q, HX.out])
          clear q0 b1 hHeld
          refine start_ (n := 9) (S := fun w' => w'.cell? (ad.add i) = some (.int .i64 x) ∧ w'.cell? ⟨g6, 1, none⟩ = some (.slice A1 m1 c1)) (ds := [6, 8]) #[false, false, false, false, false, false, false, false, false] (by kernel_rfl) rfl rfl ⟨z0, z1⟩ (fun hHeld => ?_)
          refine with_tabW In.tab9 In.bits9 (fun HT_ HW_ => ?_)
          refine pure_ (i := 0) (N := some 37) (v := ?_) (a' := ?_) #[true, false, false, false, false, false, false, false, false] rfl rfl (any_of HT_.out (by kernel_rfl)) (fun _ _ _ h => h) (Or.inl ⟨by rfl, ?_⟩) ?_ ?_
          rotate_left
          · intro w'
            go_simp
            with_reducible rfl
          rotate_left
          · simp only [Act.put, List.setIfInBounds_toArray, List.set_cons_zero, List.set_cons_succ, i64_w, i32_w]
            rfl
          refine pure_ (i := 2) (N := some 39) (v := ?_) (a' := ?_) #[true, false, true, false, false, false, false, false, false] rfl rfl (any_of HT_.out (by kernel_rfl)) (fun _ _ _ h => h) (Or.inl ⟨by rfl, ?_⟩) ?_ ?_
          rotate_left
          · intro w'
            go_simp
            with_reducible rfl
          rotate_left
          · simp only [Act.put, List.setIfInBounds_toArray, List.set_cons_zero, List.set_cons_succ, i64_w, i32_w]
            rfl
          refine pure_ (i := 3) (N := some 40) (v := ?_) (a' := ?_) #[true, false, true, true, false, false, false, false, false] rfl rfl (any_of HT_.out (by kernel_rfl)) (fun _ _ _ h => h) (Or.inl ⟨by rfl, ?_⟩) ?_ ?_
          rotate_left
          · intro w'
            go_simp
            with_reducible rfl
          rotate_left
          · simp only [Act.put, List.setIfInBounds_toArray, List.set_cons_zero, List.set_cons_succ, i64_w, i32_w]
            rfl
          refine pure_ (i := 4) (N := some 41) (v := ?_) (a' := ?_) #[true, false, true, true, true, false, false, false, false] rfl rfl (any_of HT_.out (by kernel_rfl)) (fun _ _ _ h => h) (Or.inl ⟨by rfl, ?_⟩) ?_ ?_
          rotate_left
          · intro w'
            go_simp
            with_reducible rfl
          rotate_left
          · simp only [Act.put, List.setIfInBounds_toArray, List.set_cons_zero, List.set_cons_succ, i64_w, i32_w]
            rfl
          refine take_ (i := 1) (N := some 38) (v := ?_) (a' := ?_) #[true, true, true, true, true, false, false, false, false] rfl rfl (take_ofW HT_.out HW_.out (by kernel_rfl)) (fun _ _ _ h => h) (Or.inl ⟨by rfl, ?_⟩) hHeld ?_ ?_
          rotate_left
          · rintro w' ⟨s0, s1⟩
            go_simp
            with_reducible rfl
          rotate_left
          · simp only [Act.put, List.setIfInBounds_toArray, List.set_cons_zero, List.set_cons_succ, i64_w, i32_w]
            rfl
          refine take_ (i := 5) (N := some 42) (v := ?_) (a' := ?_) #[true, true, true, true, true, true, false, false, false] rfl rfl (take_ofW HT_.out HW_.out (by kernel_rfl)) (fun _ _ _ h => h) (Or.inl ⟨by rfl, ?_⟩) hHeld ?_ ?_
          rotate_left
          · rintro w' ⟨s0, s1⟩
            go_simp
            with_reducible rfl
          rotate_left
          · simp only [Act.put, List.setIfInBounds_toArray, List.set_cons_zero, List.set_cons_succ, i64_w, i32_w]
            rfl
          refine last_ (i := 6) (N := some 43) #[true, true, true, true, true, true, true, false, false] rfl rfl (one_of HT_.out (by kernel_rfl)) (by decide) (fun K hK => ?_)
          refine goes_ Try.func40 (by kernel_rfl) rfl #[.slice A1 m1 c1, .int .i64 x] (by rfl) rfl rfl (by simp only [List.map_toArray, List.map_cons, List.map_nil]; rfl) ?_
          with_reducible refine (HWI.out _ x (Kd.C_below HCZ.out (below_drew (Below.refl _ _)))).mono ?_
          rintro e w5 ⟨v5, rfl, hr5, hb5⟩
          refine ⟨_, rfl, ?_⟩
          obtain ⟨A5, c5, hv5⟩ := Kd.R_slice hr5
          subst hv5
          have H5 := Aside0.mk ((HZ.out.drew.made hb5 hr5).nth 1 rfl)
          have qq0 := (HZQ.out w5 hb5)
          have bb1 := H5.out.cell 1 (v := .slice A1 m1 c1) rfl
          clear hr5 hb5
          refine hK.out _ _ ?_
          clear hK K
          refine norm_ (a' := ?_) ?_ ?_
          rotate_left
          · show Act.put _ (some 43) _ = _
            simp only [Act.put, List.setIfInBounds_toArray, List.set_cons_zero, List.set_cons_succ, i64_w, i32_w]
            rfl
          refine pure_ (i := 7) (N := some 44) (v := ?_) (a' := ?_) #[true, true, true, true, true, true, true, true, false] rfl rfl (any_of HT_.out (by kernel_rfl)) (fun _ _ _ h => h) (Or.inl ⟨by rfl, ?_⟩) ?_ ?_
          rotate_left
          · intro w'
            go_simp
            with_reducible rfl
          rotate_left
          · simp only [Act.put, List.setIfInBounds_toArray, List.set_cons_zero, List.set_cons_succ, i64_w, i32_w]
            rfl
          refine last_ (i := 8) (N := none) #[true, true, true, true, true, true, true, true, true] rfl rfl (one_of HT_.out (by kernel_rfl)) (by decide) (fun K hK => ?_)
          have s4 := H5.out.cell 1 (v := .slice A1 m1 c1) rfl
          have t4 := H5.out.free 1
          refine skip_ (w1 := ?_) (by rfl) rfl ?_ ?_
          rotate_left
          · go_simp
            rfl
          refine hK.out _ _ ?_
          clear hK K
          refine done_ (done_of HT_.out (by kernel_rfl)) ?_
          have H7 := Aside0.mk (show Sat w (w5.setCell ⟨g6, 1, none⟩ (.slice A5 (withL acc x).length c5)) (Blk g6 #[.int .i64 1, .slice A5 (withL acc x).length c5, .slice none 0 0] tP :: Row (Kd.int .i64) tI (.slice A5 (withL acc x).length c5) (withL acc x) :: Blk g4 zP tP :: []) from ((H5.out.setBlk 1 (.slice A5 (withL acc x).length c5)).nth 2 rfl).tail)
          generalize w5.setCell ⟨g6, 1, none⟩ (.slice A5 (withL acc x).length c5) = w7 at H7 ⊢
          go_wp2
          go_roundw
          case measure => simp only [intOf]; omega
          case rel => exact ⟨i + 1, _, _, by omega, congrArg (Value.int .i64) (by omega), withG_len _ _ 8 0, HR, H7⟩
    · have e1 : decide ((i : Int) < (n : Int)) = false := decide_eq_false (by omega)
      have e2 : decide (i < n) = false := decide_eq_false hi
      have HR := Aside0.mk (show initN l [] = some acc from by
        rw [← HI.out, List.drop_of_length_le (by have := HN.out; omega), initN])
      clear HI hC1 hm1 hal HCA HHS HWI
      have HS2 := Aside0.mk (HS.out.nth 2 rfl)
      by_cases hs1 : sh < 1
      · have f1 : decide (sh < 1) = true := decide_eq_true hs1
        have HFR := Aside0.mk (show initF l sh = (0, [], [], 1) from by rw [HF.out, HR.out]; exact if_pos (.inl hs1))
        clear hs1
        go_wp2_with (first | ((with_reducible refine gate_store (p := 4) rfl ?_); go_loud (refine wpList_store_row rfl tP (.tmp 4) (.tmp 51) rfl g4 #[.int .i64 0, .slice none 0 0, .slice none 0 0] rfl rfl tP _ HS2.out.blk (by kernel_rfl) rfl (by simp [Value.oneCell']) ?_; have HZZ := Aside0.mk (Sat.setRow HS2.out #[.int .i64 0, .slice none 0 0, .slice none 0 0]))))
        rw [HFR.out]
        refine bodyPost_ret (results_ct rfl _ _ g4 tP #[.int .i64 0, .slice none 0 0, .slice none 0 0] (0, 0) _ rfl HZZ.out.blk Try.underlying25 rfl (by kernel_rfl)) rfl ?_
        exact PTold.nil HZZ.out.below
      have f1 : decide (sh < 1) = false := decide_eq_false hs1
      by_cases hs8 : 8 < sh
      · have f2 : decide (8 < sh) = true := decide_eq_true hs8
        have HFR := Aside0.mk (show initF l sh = (0, [], [], 1) from by rw [HF.out, HR.out]; exact if_pos (.inr hs8))
        clear hs1 hs8
        go_wp2_with (first | ((with_reducible refine gate_store (p := 4) rfl ?_); go_loud (refine wpList_store_row rfl tP (.tmp 4) (.tmp 51) rfl g4 #[.int .i64 0, .slice none 0 0, .slice none 0 0] rfl rfl tP _ HS2.out.blk (by kernel_rfl) rfl (by simp [Value.oneCell']) ?_; have HZZ := Aside0.mk (Sat.setRow HS2.out #[.int .i64 0, .slice none 0 0, .slice none 0 0]))))
        rw [HFR.out]
        refine bodyPost_ret (results_ct rfl _ _ g4 tP #[.int .i64 0, .slice none 0 0, .slice none 0 0] (0, 0) _ rfl HZZ.out.blk Try.underlying25 rfl (by kernel_rfl)) rfl ?_
        exact PTold.nil HZZ.out.below
      have f2 : decide (8 < sh) = false := decide_eq_false hs8
      have HFR := Aside0.mk (show initF l sh = (1, acc, initS acc sh.toNat [], 0) from by rw [HF.out, HR.out]; exact if_neg (fun h => h.elim hs1 hs8))
      obtain ⟨N, rfl⟩ : ∃ N : Nat, sh = (N : Int) := ⟨sh.toNat, by omega⟩
      have hN8 : N ≤ 8 := by omega
      have H10 := Aside0.mk (Pm.mk (ss := []) (((Shs.nil HS.out).nth 2 rfl).nth 2 rfl))
      rw [Int.toNat_natCast] at HFR
      clear hs1 hs8 HF HR HS HS2
      have HNA := Aside0.mk (show acc.length ≤ 100000000 from by have := HLA.out; omega)
      generalize acc = ns at HFR H10 HNA
      go_wp2
      clear f1 f2
      go_loopw [8] (fun v8 ws => ∃ (i : Nat) (ss : List (List Ow)), i ≤ N ∧ v8 = .int .i64 i ∧ Aside0 (ss.length = i) ∧ Aside0 (∀ l ∈ ss, l.length ≤ 3 * i) ∧ Aside0 (initS ns (N - i) ss = initS ns N []) ∧ Aside0 (Sat w ws (Pm g6 1 ns ss :: Blk g4 zP tP :: []))) (fun v8 _ => (N - intOf v8).toNat)
      case atStart => exact ⟨0, [], Nat.zero_le _, rfl, ⟨rfl⟩, ⟨fun l hl => by cases hl⟩, ⟨rfl⟩, H10⟩
      case round =>
        obtain ⟨i, ss, hiN, rfl, HSL, HL, HE, HS⟩ := hrel
        clear H10
        by_cases hi : i < N
        · have e1 : decide ((i : Int) < (N : Int)) = true := decide_eq_true (by omega)
          have e2 : decide (i < N) = true := decide_eq_true hi
          obtain ⟨A1, c1, A2, c2, hc1, hc2, hp⟩ := Pm.open HS.out
          rw [HSL.out] at hp hc2
          obtain ⟨hs, hhl, hp2⟩ := Shs.open (hp.nth 2 rfl)
          have b2 := hp.cell 2 (v := .slice A2 i c2) rfl
          have HP2 := Aside0.mk hp2
          have HHL := Aside0.mk hhl
          have hsb : (hs.length + 1) * 24 ≤ 140737488355328 := by rw [hhl, HSL.out]; omega
          have HH5 := Aside0.mk (show (hs ++ [((none, 0, 0) : Hd)]).length = i + 1 from by rw [List.length_append, hhl, HSL.out]; rfl)
          clear hp hp2 hhl HS
          go_upto_region 16 with (first | (at_builtin; go_loud (refine Sat.append kH rfl (.tmp 58) (.tmp 59) 23 tL (.slice none 0 0) 24 rfl Try.underlying23 infoL rfl (by decide) (by decide) _ hs (none, 0, 0) [.slice none 0 0] rfl rfl rfl HP2.out hsb ?_; intro v5 w5 hs5 _; obtain ⟨A5, c5, hv5, _, _⟩ := hs5.rowSlice; rw [HH5.out] at hv5; subst hv5; have H5 := Aside0.mk (show Sat w w5 (Shs (.slice A5 (i + 1) c5) (ss ++ [[]]) :: Blk g6 #[.int .i64 1, .slice A1 ns.length c1, .slice A2 i c2] tP :: Row (Kd.int .i64) tI (.slice A1 ns.length c1) ns :: Blk g4 zP tP :: []) from Shs.snocNil HHL.out hs5); have z2 := (H5.out.nth 1 rfl).cell 2 (v := .slice A2 i c2) rfl; have y2 := (H5.out.nth 1 rfl).free 2; clear hs5)))
          have H6 := Aside0.mk (show Sat w (w5.setCell ⟨g6, 2, none⟩ (.slice A5 (i + 1) c5)) (Pm g6 1 ns (ss ++ [[]]) :: Blk g4 zP tP :: []) from Pm.mk ((((H5.out.nth 1 rfl).setBlk 2 (.slice A5 (i + 1) c5)).nth 2 rfl).nth 1 rfl))
          generalize w5.setCell ⟨g6, 2, none⟩ (.slice A5 (i + 1) c5) = w6 at H6 ⊢
          have HSL2 := Aside0.mk (show (ss ++ [[]]).length = i + 1 from by rw [List.length_append, HSL.out]; rfl)
          have HL2 := Aside0.mk (show ∀ l ∈ ss ++ [[]], l.length ≤ 3 * i from fun l hl => by
            rcases List.mem_append.1 hl with hl | hl
            · exact HL.out l hl
            · rw [List.mem_singleton.1 hl]; exact Nat.zero_le _)
          have HE2 := Aside0.mk (show initS ns (N - (i + 1)) (addN ns i 3 (ss ++ [[]])) = initS ns N [] from by
            rw [← HE.out]
            have e : N - i = (N - (i + 1)) + 1 := by omega
            rw [e, initS, HSL.out]
            rfl)
          generalize ss ++ [[]] = sa at H6 HSL2 HL2 HE2
          clear H5 HP2 HHL HH5 b2 HSL HL HE
          go_wp2
          go_loopw [9] (fun v9 wt => ∃ (j : Nat) (sb : List (List Ow)), j ≤ 3 ∧ v9 = .int .i64 j ∧ Aside0 (sb.length = i + 1) ∧ Aside0 (∀ l ∈ sb, l.length ≤ 3 * i + j) ∧ Aside0 (addN ns i (3 - j) sb = addN ns i 3 sa) ∧ Aside0 (Sat w wt (Pm g6 1 ns sb :: Blk g4 zP tP :: []))) (fun v9 _ => (3 - intOf v9).toNat)
          case atStart => exact ⟨0, sa, Nat.zero_le _, rfl, HSL2, HL2, ⟨rfl⟩, H6⟩
          case round =>
            obtain ⟨j, sb, hj3, rfl, HSB, HLB, HAB, HSS⟩ := hrel
            rename World => wt
            clear H6 HL2 HSL2
            by_cases hj : j < 3
            · have g1 : decide ((j : Int) < 3) = true := decide_eq_true (by omega)
              have g2 : decide (j < 3) = true := decide_eq_true hj
              have hsb : i < sb.length := by rw [HSB.out]; omega
              have hbo : 3 * i + j ≤ 100000000 := by omega
              have hsm : Small sb := ⟨by rw [HSB.out]; omega, fun l hl => Nat.le_trans (HLB.out l hl) hbo⟩
              have hil := HLB.out _ (List.getElem_mem hsb)
              have hgd : sb.getD i [] = sb[i] := by rw [List.getD_eq_getElem?_getD, List.getElem?_eq_getElem hsb]; rfl
              have HAO := Aside0.mk (show addOne ns sb i = sb.set i (setL sb[i] ⟨leastG sb i ns (-1), 2, -1⟩) from by unfold addOne; rw [hgd])
              have HAL := Aside0.mk (addOne_le (ns := ns) (i := i) HLB.out)
              have HAN := Aside0.mk (addOne_length ns sb i)
              obtain ⟨A1, c1, A2, c2, hc1, hc2, hp⟩ := Pm.open HSS.out
              obtain ⟨gb, cap, A3, c3, hA2, b3, hc3, hf3, hgb, hq⟩ := Shs.lend (hp.nth 2 rfl) i hsb
              have hcs := (Shs.read (hp.nth 2 rfl))
              have hcn := (hp.nth 1 rfl).rowC
              cases hA2
              obtain ⟨_, _, eA, hcl, hCs⟩ := hcs
              cases eA
              have HLE := Aside0.mk (thermographref14_least.calls 500000001 1 A1 c1 ns (some ⟨gb, 0, none⟩) c2 sb (i : Int) _ _ (Kd.C_below hcn (below_drew (Below.refl _ wt))) hc1 (Kd.C_below hCs (below_drew (Below.refl _ _))) hc2 (least_f 1 (i : Int) hsm HNA.out (by omega)))
              have HC3 := Aside0.mk ((hq).rowC)
              have HPT := Aside0.mk (fun (w6 : World) (A6 : Option Addr) (c6 : Nat) (l6 : List Ow) (h : Sat w w6 (Row kO tO (.slice A6 l6.length c6) l6 :: Blk g6 #[.int .i64 1, .slice A1 ns.length c1, .slice (some ⟨gb, 0, none⟩) sb.length c2] tP :: Row kO tO (.slice A3 sb[i].length c3) sb[i] :: ShsH (.slice (some ⟨gb, 0, none⟩) sb.length c2) sb i :: Row (Kd.int .i64) tI (.slice A1 ns.length c1) ns :: Blk g4 zP tP :: [])) => show Sat w (w6.setCell ⟨gb, i, none⟩ (.slice A6 l6.length c6)) (Pm g6 1 ns (sb.set i l6) :: Blk g4 zP tP :: []) from by
                have h1 := (h.nth 3 rfl).nth 1 rfl
                have h2 := ShsH.put h1 hsb
                have h3 := (h2.nth 2 rfl).tail
                have h4 := (h3.nth 2 rfl).nth 2 rfl
                exact Pm.mk h4)
              have HS3 := Aside0.mk (show Sat w _ (Blk g6 #[.int .i64 1, .slice A1 ns.length c1, .slice (some ⟨gb, 0, none⟩) sb.length c2] tP :: Row kO tO (.slice A3 sb[i].length c3) sb[i] :: ShsH (.slice (some ⟨gb, 0, none⟩) sb.length c2) sb i :: Row (Kd.int .i64) tI (.slice A1 ns.length c1) ns :: Blk g4 zP tP :: []) from hq.nth 2 rfl)
              have b0 := HS3.out.cell 0 (v := .int .i64 1) rfl
              have b1 := HS3.out.cell 1 (v := .slice A1 ns.length c1) rfl
              have b2 := HS3.out.cell 2 (v := .slice (some ⟨gb, 0, none⟩) sb.length c2) rfl
              have HGB := Aside0.mk hgb
              have HFZ := Aside0.mk hf3
              obtain ⟨le, hle⟩ : ∃ le, leastG sb i ns (-1) = le := ⟨_, rfl⟩
              rw [hle] at HLE HAO
              have HSE := Aside0.mk (fun (w' : World) (h : Kd.C kO w' A3 sb[i].length sb[i]) => thermographref14_set.calls 100000001 A3 c3 sb[i] le 2 (-1) _ w' h hc3 (set_f (⟨le, 2, -1⟩ : Ow) (by omega) (by omega)))
              obtain ⟨m1, hm1⟩ : ∃ m1, ns.length = m1 := ⟨_, rfl⟩
              obtain ⟨m2, hm2⟩ : ∃ m2, sb.length = m2 := ⟨_, rfl⟩
              obtain ⟨m3, hm3⟩ : ∃ m3, sb[i].length = m3 := ⟨_, rfl⟩
              have y1 : (0 : Int) ≤ (i : Int) := by omega
              have y2 : (i : Int) < (m2 : Int) := by omega
              clear hcl hCs hcn hq hp hgd hsm hgb hf3 hle hil hc3 hc1 hc2
              rw [hm1] at HLE HPT HS3 b1
              rw [hm2] at HLE HPT HS3 b2
              rw [hm3] at HC3 HSE HPT HS3 b3
              generalize sb[i] = li at HAO HC3 HSE HPT HS3
              clear hm1 hm2 hm3 hsb
              go_upto_region 19 with (fail)
              refine start_ (n := 15) (S := fun w' => w'.cell? ⟨g6, 0, none⟩ = some (.int .i64 1) ∧ w'.cell? ⟨g6, 1, none⟩ = some (.slice A1 m1 c1) ∧ w'.cell? ⟨g6, 2, none⟩ = some (.slice (some ⟨gb, 0, none⟩) m2 c2) ∧ w'.cell? ⟨gb, i, none⟩ = some (.slice A3 m3 c3)) (ds := [14]) #[false, false, false, false, false, false, false, false, false, false, false, false, false, false, false] (by kernel_rfl) rfl rfl ⟨b0, b1, b2, b3⟩ (fun hHeld => ?_)
              refine with_tabW In.tab19 In.bits19 (fun HT_ HW_ => ?_)
              refine pure_ (i := 0) (N := some 66) (v := ?_) (a' := ?_) #[true, false, false, false, false, false, false, false, false, false, false, false, false, false, false] rfl rfl (any_of HT_.out (by kernel_rfl)) (fun _ _ _ h => h) (Or.inl ⟨by rfl, ?_⟩) ?_ ?_
              rotate_left
              · intro w'
                go_simp
                with_reducible rfl
              rotate_left
              · simp only [Act.put, List.setIfInBounds_toArray, List.set_cons_zero, List.set_cons_succ, i64_w, i32_w]
                rfl
              refine pure_ (i := 2) (N := some 68) (v := ?_) (a' := ?_) #[true, false, true, false, false, false, false, false, false, false, false, false, false, false, false] rfl rfl (any_of HT_.out (by kernel_rfl)) (fun _ _ _ h => h) (Or.inl ⟨by rfl, ?_⟩) ?_ ?_
              rotate_left
              · intro w'
                go_simp
                with_reducible rfl
              rotate_left
              · simp only [Act.put, List.setIfInBounds_toArray, List.set_cons_zero, List.set_cons_succ, i64_w, i32_w]
                rfl
              refine pure_ (i := 3) (N := some 69) (v := ?_) (a' := ?_) #[true, false, true, true, false, false, false, false, false, false, false, false, false, false, false] rfl rfl (any_of HT_.out (by kernel_rfl)) (fun _ _ _ h => h) (Or.inl ⟨by rfl, ?_⟩) ?_ ?_
              rotate_left
              · intro w'
                go_simp
                with_reducible rfl
              rotate_left
              · simp only [Act.put, List.setIfInBounds_toArray, List.set_cons_zero, List.set_cons_succ, i64_w, i32_w]
                rfl
              refine pure_ (i := 5) (N := some 71) (v := ?_) (a' := ?_) #[true, false, true, true, false, true, false, false, false, false, false, false, false, false, false] rfl rfl (any_of HT_.out (by kernel_rfl)) (fun _ _ _ h => h) (Or.inl ⟨by rfl, ?_⟩) ?_ ?_
              rotate_left
              · intro w'
                go_simp
                with_reducible rfl
              rotate_left
              · simp only [Act.put, List.setIfInBounds_toArray, List.set_cons_zero, List.set_cons_succ, i64_w, i32_w]
                rfl
              refine pure_ (i := 9) (N := some 75) (v := ?_) (a' := ?_) #[true, false, true, true, false, true, false, false, false, true, false, false, false, false, false] rfl rfl (any_of HT_.out (by kernel_rfl)) (fun _ _ _ h => h) (Or.inl ⟨by rfl, ?_⟩) ?_ ?_
              rotate_left
              · intro w'
                go_simp
                with_reducible rfl
              rotate_left
              · simp only [Act.put, List.setIfInBounds_toArray, List.set_cons_zero, List.set_cons_succ, i64_w, i32_w]
                rfl
              refine take_ (i := 1) (N := some 67) (v := ?_) (a' := ?_) #[true, true, true, true, false, true, false, false, false, true, false, false, false, false, false] rfl rfl (take_ofW HT_.out HW_.out (by kernel_rfl)) (fun _ _ _ h => h) (Or.inl ⟨by rfl, ?_⟩) hHeld ?_ ?_
              rotate_left
              · rintro w' ⟨s0, s1, s2, s3⟩
                go_simp
                with_reducible rfl
              rotate_left
              · simp only [Act.put, List.setIfInBounds_toArray, List.set_cons_zero, List.set_cons_succ, i64_w, i32_w]
                rfl
              refine take_ (i := 4) (N := some 70) (v := ?_) (a' := ?_) #[true, true, true, true, true, true, false, false, false, true, false, false, false, false, false] rfl rfl (take_ofW HT_.out HW_.out (by kernel_rfl)) (fun _ _ _ h => h) (Or.inl ⟨by rfl, ?_⟩) hHeld ?_ ?_
              rotate_left
              · rintro w' ⟨s0, s1, s2, s3⟩
                go_simp
                with_reducible rfl
              rotate_left
              · simp only [Act.put, List.setIfInBounds_toArray, List.set_cons_zero, List.set_cons_succ, i64_w, i32_w]
                rfl
              refine pure_ (i := 6) (N := some 72) (v := ?_) (a' := ?_) #[true, true, true, true, true, true, true, false, false, true, false, false, false, false, false] rfl rfl (any_of HT_.out (by kernel_rfl)) (fun _ _ _ h => h) (Or.inl ⟨by rfl, ?_⟩) ?_ ?_
              rotate_left
              · intro w'
                go_simp
                with_reducible rfl
              rotate_left
              · simp only [Act.put, List.setIfInBounds_toArray, List.set_cons_zero, List.set_cons_succ, i64_w, i32_w]
                rfl
              refine take_ (i := 7) (N := some 73) (v := ?_) (a' := ?_) #[true, true, true, true, true, true, true, true, false, true, false, false, false, false, false] rfl rfl (take_ofW HT_.out HW_.out (by kernel_rfl)) (fun _ _ _ h => h) (Or.inl ⟨by rfl, ?_⟩) hHeld ?_ ?_
              rotate_left
              · rintro w' ⟨s0, s1, s2, s3⟩
                go_simp
                with_reducible rfl
              rotate_left
              · simp only [Act.put, List.setIfInBounds_toArray, List.set_cons_zero, List.set_cons_succ, i64_w, i32_w]
                rfl
              refine take_ (i := 8) (N := some 74) (v := ?_) (a' := ?_) #[true, true, true, true, true, true, true, true, true, true, false, false, false, false, false] rfl rfl (take_ofW HT_.out HW_.out (by kernel_rfl)) (fun _ _ _ h => h) (Or.inl ⟨by rfl, ?_⟩) hHeld ?_ ?_
              rotate_left
              · rintro w' ⟨s0, s1, s2, s3⟩
                go_simp
                with_reducible rfl
              rotate_left
              · simp only [Act.put, List.setIfInBounds_toArray, List.set_cons_zero, List.set_cons_succ, i64_w, i32_w]
                rfl
              refine one_ (i := 10) (N := some 76) #[true, true, true, true, true, true, true, true, true, true, true, false, false, false, false] rfl rfl (one_of HT_.out (by kernel_rfl)) (by decide) (fun K hK => ?_)
              refine goes_ Try.func42 (by kernel_rfl) rfl #[.agg #[.int .i64 1, .slice A1 m1 c1, .slice (some ⟨gb, 0, none⟩) m2 c2], .int .i64 i] (by rfl) rfl rfl (by simp only [List.map_toArray, List.map_cons, List.map_nil]; rfl) ?_
              with_reducible refine (HLE.out).mono ?_
              rintro e w5 ⟨rfl, hb5⟩
              refine ⟨_, rfl, ?_⟩
              have H5 := Aside0.mk (HS3.out.drew.step hb5)
              have bb0 := H5.out.cell 0 (v := .int .i64 1) rfl
              have bb1 := H5.out.cell 1 (v := .slice A1 m1 c1) rfl
              have bb2 := H5.out.cell 2 (v := .slice (some ⟨gb, 0, none⟩) m2 c2) rfl
              have bb3 := (hb5.cell (p := ⟨gb, i, none⟩) HGB.out).trans b3
              have bf3 := Aside0.mk ((hb5.frozen (p := ⟨gb, i, none⟩) HGB.out).trans HFZ.out)
              have HC5 := Aside0.mk (Kd.C_below HC3.out (below_step (below_drew (Below.refl _ _)) hb5))
              have HG5 := Aside0.mk (Nat.lt_of_lt_of_le HGB.out hb5.size)
              clear hb5
              refine hK.out _ _ ⟨bb0, bb1, bb2, bb3⟩ (fun hHeld => ?_)
              clear hK K
              refine norm_ (a' := ?_) ?_ ?_
              rotate_left
              · show Act.put _ (some 76) _ = _
                simp only [Act.put, List.setIfInBounds_toArray, List.set_cons_zero, List.set_cons_succ, i64_w, i32_w]
                rfl
              refine pure_ (i := 11) (N := some 77) (v := ?_) (a' := ?_) #[true, true, true, true, true, true, true, true, true, true, true, true, false, false, false] rfl rfl (any_of HT_.out (by kernel_rfl)) (fun _ _ _ h => h) (Or.inl ⟨by rfl, ?_⟩) ?_ ?_
              rotate_left
              · intro w'
                go_simp
                with_reducible rfl
              rotate_left
              · simp only [Act.put, List.setIfInBounds_toArray, List.set_cons_zero, List.set_cons_succ, i64_w, i32_w]
                rfl
              refine one_ (i := 12) (N := some 78) #[true, true, true, true, true, true, true, true, true, true, true, true, true, false, false] rfl rfl (one_of HT_.out (by kernel_rfl)) (by decide) (fun K hK => ?_)
              refine goes_ Try.func41 (by kernel_rfl) rfl #[.slice A3 m3 c3, .agg #[.int .i64 le, .int .i64 2, .int .i64 (-1)]] (by rfl) rfl rfl (by simp only [List.map_toArray, List.map_cons, List.map_nil]; rfl) ?_
              with_reducible refine (HSE.out _ HC5.out).mono ?_
              rintro e w6 ⟨v6, rfl, hr6, hb6⟩
              refine ⟨_, rfl, ?_⟩
              obtain ⟨A6, c6, hv6⟩ := Kd.R_slice hr6
              subst hv6
              have H6 := Aside0.mk ((H5.out.made hb6 hr6))
              have bc0 := (H6.out.nth 1 rfl).cell 0 (v := .int .i64 1) rfl
              have bc1 := (H6.out.nth 1 rfl).cell 1 (v := .slice A1 m1 c1) rfl
              have bc2 := (H6.out.nth 1 rfl).cell 2 (v := .slice (some ⟨gb, 0, none⟩) m2 c2) rfl
              have bc3 := (hb6.cell (p := ⟨gb, i, none⟩) HG5.out).trans bb3
              have bg3 := Aside0.mk ((hb6.frozen (p := ⟨gb, i, none⟩) HG5.out).trans bf3.out)
              clear hr6 hb6
              refine hK.out _ _ ⟨bc0, bc1, bc2, bc3⟩ (fun hHeld => ?_)
              clear hK K
              refine norm_ (a' := ?_) ?_ ?_
              rotate_left
              · show Act.put _ (some 78) _ = _
                simp only [Act.put, List.setIfInBounds_toArray, List.set_cons_zero, List.set_cons_succ, i64_w, i32_w]
                rfl
              refine pure_ (i := 13) (N := some 79) (v := ?_) (a' := ?_) #[true, true, true, true, true, true, true, true, true, true, true, true, true, true, false] rfl rfl (any_of HT_.out (by kernel_rfl)) (fun _ _ _ h => h) (Or.inl ⟨by rfl, ?_⟩) ?_ ?_
              rotate_left
              · intro w'
                go_simp
                with_reducible rfl
              rotate_left
              · simp only [Act.put, List.setIfInBounds_toArray, List.set_cons_zero, List.set_cons_succ, i64_w, i32_w]
                rfl
              refine last_ (i := 14) (N := none) #[true, true, true, true, true, true, true, true, true, true, true, true, true, true, true] rfl rfl (one_of HT_.out (by kernel_rfl)) (by decide) (fun K hK => ?_)
              have s4 := bc3
              have t4 := bg3.out
              refine skip_ (w1 := ?_) (by rfl) rfl ?_ ?_
              rotate_left
              · go_simp
                rfl
              refine hK.out _ _ ?_
              clear hK K
              refine done_ (done_of HT_.out (by kernel_rfl)) ?_
              have H8 := Aside0.mk (HPT.out w6 A6 c6 _ H6.out)
              rw [← HAO.out] at H8
              generalize w6.setCell ⟨gb, i, none⟩ _ = w8 at H8 ⊢
              have HA9 := Aside0.mk (show addN ns i (3 - (j + 1)) (addOne ns sb i) = addN ns i 3 sa from by
                rw [← HAB.out]
                have e : 3 - j = (3 - (j + 1)) + 1 := by omega
                rw [e, addN])
              clear HAO
              go_wp2
              go_roundw
              case measure => simp only [intOf]; omega
              case rel => exact ⟨j + 1, _, by omega, congrArg (Value.int .i64) (by omega), ⟨by rw [HAN.out]; exact HSB.out⟩, ⟨HAL.out⟩, HA9, H8⟩
            · have g1 : decide ((j : Int) < 3) = false := decide_eq_false (by omega)
              have g2 : decide (j < 3) = false := decide_eq_false hj
              have hj' : j = 3 := by omega
              have HE3 := Aside0.mk (show initS ns (N - (i + 1)) sb = initS ns N [] from by
                rw [← HE2.out, ← HAB.out, hj']
                rfl)
              have HL3 := Aside0.mk (show ∀ l ∈ sb, l.length ≤ 3 * (i + 1) from fun l hl => by have := HLB.out l hl; omega)
              clear hj hj'
              go_wp2
              go_roundw
              case measure => simp only [intOf]; omega
              case rel => exact ⟨i + 1, sb, by omega, congrArg (Value.int .i64) (by omega), HSB, HL3, HE3, HSS⟩
        · have e1 : decide ((i : Int) < (N : Int)) = false := decide_eq_false (by omega)
          have e2 : decide (i < N) = false := decide_eq_false hi
          have HIF := Aside0.mk (show initF l (N : Int) = (1, ns, ss, 0) from by
            have e : N - i = 0 := by omega
            rw [HFR.out, ← HE.out, e, initS])
          obtain ⟨A1, c1, A2, c2, hc1, hc2, hp⟩ := Pm.open HS.out
          have b0 := hp.cell 0 (v := .int .i64 1) rfl
          have b1 := hp.cell 1 (v := .slice A1 ns.length c1) rfl
          have b2 := hp.cell 2 (v := .slice A2 ss.length c2) rfl
          have HX := Aside0.mk (hp.nth 3 rfl)
          clear hp HE HL HSL
          go_wp2_with (first | ((with_reducible refine gate_store (p := 4) rfl ?_); go_loud (refine wpList_store_row rfl tP (.tmp 4) (.tmp 80) rfl g4 #[.int .i64 1, .slice A1 ns.length c1, .slice A2 ss.length c2] rfl rfl tP _ HX.out.blk (by kernel_rfl) rfl (by simp [Value.oneCell']) ?_; have HZZ := Aside0.mk (Sat.setRow HX.out #[.int .i64 1, .slice A1 ns.length c1, .slice A2 ss.length c2]))))
          rw [HIF.out]
          refine bodyPost_ret (results_ct rfl _ _ g4 tP #[.int .i64 1, .slice A1 ns.length c1, .slice A2 ss.length c2] (0, 0) _ rfl HZZ.out.blk Try.underlying25 rfl (by kernel_rfl)) rfl ?_
          exact PTold.of (show Sat w _ (Row (Kd.int .i64) tI (.slice A1 ns.length c1) ns :: Shs (.slice A2 ss.length c2) ss :: _) from (HZZ.out.tail).tail)
end Go.Proofs.Ytmdebnfjhnhcjaa.QB
namespace Go.Proofs.Ytmdebnfjhnhcjaa.QB
open Go.RowKit Go.Proofs.YtmdebnfjhnhcjaaW.PrintWords Go.Proofs.YtmdebnfjhnhcjaaW.PrintLast Go.Proofs.Ytmdebnfjhnhcjaa.RlP
set_option linter.unusedVariables false
def thermographref14_Init.f (l0 : List Int) (a1 : Int) : Option (Int × List Int × (List (List (S41))) × Int) := if l0.length ≤ 1000000 then some (initF l0 a1) else none
theorem thermographref14_Init.f_eq {l0 : List Int} (h : l0.length ≤ 1000000) (a1 : Int) : thermographref14_Init.f l0 a1 = some (initF l0 a1) := if_pos h
theorem thermographref14_Init.calls (A0 : Option Addr) (c0 : Nat) (l0 : List Int) (a1 : Int) (r1 : Int) (r2 : List Int) (r3 : List (List (S41))) (r4 : Int) (w : World) (hr0 : Kd.C (Kd.int .i64) w A0 l0.length l0) (hc0 : l0.length ≤ c0) (h : thermographref14_Init.f l0 a1 = some (r1, r2, r3, r4)) :
    Calls Try.prog 12 #[.slice A0 l0.length c0, .int .i64 a1] w fun e w' => ∃ v1_ v2_ : Value, e = .returned (.tuple #[.agg #[.int .i64 r1, v1_, v2_], .int .i64 r4]) ∧ Kd.R (Kd.int .i64) 3 w' w.heap.size (fun _ => True) v1_ r2 ∧ Kd.S (Kd.slice 41 k41) 39 w' w.heap.size (fun _ => True) v2_ r3 ∧ Below w.heap.size w w' := by
  unfold thermographref14_Init.f at h
  split at h
  · rename_i hl
    have h := Option.some.inj h
    refine (rinit_calls w A0 c0 l0 a1 hl hr0).mono fun e w' he => ?_
    rw [h] at he
    exact he
  · cases h
end Go.Proofs.Ytmdebnfjhnhcjaa.QB
