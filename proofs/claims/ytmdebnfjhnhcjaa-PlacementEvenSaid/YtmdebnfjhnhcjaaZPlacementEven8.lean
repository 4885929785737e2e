/- placement.owner as a Lean function laid by hand (a stand-in for the printer): where in a shard a node stands.
   What functions of the translation come to, each as a Lean function, and a proof that the call comes to just that; or a law's row, out of its plain law. Written by mp.py, a program of this session, which runs the printer of the kit with stand-in bodies for some library functions. -/
import Derived.Test.YtmdebnfjhnhcjaaZPlacementEven1
import Derived.Test.YtmdebnfjhnhcjaaZPlacementEven0
namespace Go.Proofs.Ytmdebnfjhnhcjaa.QB
open Go.RowKit Go.Proofs.YtmdebnfjhnhcjaaW.PrintWords Go.Proofs.YtmdebnfjhnhcjaaW.PrintLast Go.Proofs.YtmdebnfjhnhcjaaW.PrintMore Go.Proofs.Ytmdebnfjhnhcjaa.Sl Go.Proofs.Ytmdebnfjhnhcjaa.PlI
set_option linter.unusedVariables false
set_option linter.unusedSimpArgs false
def placement_owner.f (l0 : List (S41)) (a1 : Int) : Option Int := if l0.length ≤ 1000000000 then some (ix (fun x => x.f0 == a1) l0) else none
theorem placement_owner.f_eq {l0 : List (S41)} (h : l0.length ≤ 1000000000) (a1 : Int) : placement_owner.f l0 a1 = some (ix (fun x => x.f0 == a1) l0) := by
  unfold placement_owner.f
  rw [if_pos h]
set_option maxHeartbeats 8000000 in
set_option maxRecDepth 100000 in
theorem owner1_calls (x : Ow) (n : Int) (p : Addr) (w : World) (hp : w.cell? p = some (.int .i64 n)) (hb : p.block < w.heap.size) :
    Calls Try.prog 86 #[.agg #[.int .i64 x.f0, .int .i64 x.f1, .int .i64 x.f2], .pointer (some p)] w fun e w2 => e = .returned (.bool (x.f0 == n)) ∧ Below w.heap.size w w2 := by
  have h2 : (w.alloc (.cells #[.int .i64 x.f0, .int .i64 x.f1, .int .i64 x.f2] 41)).cell? p = some (.int .i64 n) := ((below_alloc (Below.refl _ _) _).cell hb).trans hp
  have HB := Aside0.mk (below_alloc (Below.refl w.heap.size w) (.cells #[.int .i64 x.f0, .int .i64 x.f1, .int .i64 x.f2] 41))
  clear hp hb
  go_enter Try.func86, Try.ntmps86
  go_wp2
  go_ret
  exact ⟨rfl, HB.out⟩
set_option maxHeartbeats 8000000 in
set_option maxRecDepth 100000 in
theorem placement_owner.calls (A0 : Option Addr) (c0 : Nat) (l0 : List (S41)) (a1 : Int) (r : Int) (w : World) (hr0 : Kd.C k41 w A0 l0.length l0) (hc0 : l0.length ≤ c0) (h : placement_owner.f l0 a1 = some r) :
    Calls Try.prog 66 #[.slice A0 l0.length c0, .int .i64 a1] w fun e w' => e = .returned (.int .i64 r) ∧ Below w.heap.size w w' := by
  unfold placement_owner.f at h
  split at h
  rotate_left
  · cases h
  rename_i hl
  cases h
  have hba := below_alloc (Below.refl w.heap.size w) (.cells #[.int .i64 a1] 3)
  have hs := (Sat.start w).newBlk #[.int .i64 a1] 3
  have hcell := hs.cell 0 (v := .int .i64 a1) rfl
  have hlt := hs.lt
  have HI := Aside0.mk (idx_own (w.alloc (.cells #[.int .i64 a1] 3)) A0 c0 l0 ⟨w.heap.size, 0, none⟩ (fun x => x.f0 == a1) hl (Kd.C_below hr0 hba) (fun x w1 hb1 => (owner1_calls x a1 _ w1 ((hb1.cell (p := ⟨w.heap.size, 0, none⟩) hlt).trans hcell) (Nat.lt_of_lt_of_le hlt hb1.size)).mono fun e w2 he => ⟨he.1, below_step hb1 he.2⟩))
  have HBA := Aside0.mk hba
  clear hba hcell hr0 hs hlt
  obtain ⟨n, hn⟩ : ∃ n, l0.length = n := ⟨_, rfl⟩
  rw [hn] at HI ⊢
  clear hn
  go_enter Try.func66, Try.ntmps66
  go_wp2_with (first | (go_at_call 80; go_in) | (go_at_call 87; go_loud ((with_reducible refine HI.out.mono ?_); rintro e w2 ⟨rfl, hb2⟩; have HB2 := Aside0.mk hb2; clear hb2)))
  go_ret
  exact ⟨rfl, below_step HBA.out (HB2.out)⟩
end Go.Proofs.Ytmdebnfjhnhcjaa.QB
namespace Go.Proofs.Ytmdebnfjhnhcjaa.QB
open Go.RowKit Go.Proofs.YtmdebnfjhnhcjaaW.PrintWords Go.Proofs.YtmdebnfjhnhcjaaW.PrintLast Go.Proofs.YtmdebnfjhnhcjaaW.PrintMore
attribute [local go_sem] max2_int min2_int max_two min_two max_three min_three max_four min_four   -- for this text's walks alone
set_option linter.unusedVariables false
set_option linter.unusedSimpArgs false

-- NOT PRINTED: function 103 (api_Owner_103)

-- NOT PRINTED: function 91 (api_Owner_91)

-- NOT PRINTED: function 76 (api_Owner_76)

-- NOT PRINTED: function 36 (placement_maker_set)

-- NOT PRINTED: function 87 (api_Owner_87)

-- NOT PRINTED: function 80 (api_Owner_80)

/-! ### placement_Find: function 26 -/
def placement_Find.j0 : Nat → Int → Int → Bool → Int → List Int → List (List (S41)) → Option (Int × Int × Int × Bool)
  | 0, _, _, _, _, _, _ => none
  | k + 1, x1, x2, x17, x262000, x262001, x262002 => if x17 = true then (some (0, 0, 0, false)) else (if 0 ≤ x1 then (if x1 < (x262002.length : Int) then ((placement_owner.f (rd_L2 x262002 x1) x2).bind fun t264 => (if t264 < 0 then (some (0, 0, 0, false)) else (if 0 ≤ t264 then (if t264 < ((rd_L2 x262002 x1).length : Int) then (some ((rd_T41 (rd_L2 x262002 x1) t264).f0, (rd_T41 (rd_L2 x262002 x1) t264).f1, (rd_T41 (rd_L2 x262002 x1) t264).f2, true)) else (none)) else (none)))) else (none)) else (none))
def placement_Find.f (k : Nat) (a0_0 : Int) (l0_1 : List Int) (l0_2 : List (List (S41))) (a1 : Int) (a2 : Int) : Option (Int × Int × Int × Bool) := if a1 < 0 then (placement_Find.j0 k a1 a2 true a0_0 l0_1 l0_2) else (placement_Find.j0 k a1 a2 (decide (a1 ≥ (l0_2.length : Int))) a0_0 l0_1 l0_2)
theorem placement_Find.mono_l : ∀ k, (∀ y0 y1 y2 y3 y4 y5, LeO (placement_Find.j0 k y0 y1 y2 y3 y4 y5) (placement_Find.j0 (k + 1) y0 y1 y2 y3 y4 y5))
  | 0 => fun _ _ _ _ _ _ r h => by simp [placement_Find.j0] at h
  | k + 1 => by
    have ih0 := placement_Find.mono_l k
    · intro y0 y1 y2 y3 y4 y5
      unfold placement_Find.j0
      repeat' first
      | (with_reducible exact ih0 _ _ _ _ _ _)
      | (with_reducible exact LeO.refl _)
      | (with_reducible exact LeO.none _)
      | (with_reducible refine LeO.ite ?_ ?_)
      | (with_reducible refine LeO.bind ?_ (fun _ => ?_))
      | exact ih0 _ _ _ _ _ _
      | exact LeO.none _
      | refine LeO.ite ?_ ?_
      | refine LeO.bind ?_ (fun _ => ?_)
theorem placement_Find.mono : ∀ a0 a1 a2 a3 a4 k, LeO (placement_Find.f k a0 a1 a2 a3 a4) (placement_Find.f (k + 1) a0 a1 a2 a3 a4) := by
  intro a0 a1 a2 a3 a4 k
  have ih0 := placement_Find.mono_l k
  unfold placement_Find.f
  repeat' first
      | (with_reducible exact ih0 _ _ _ _ _ _)
      | (with_reducible exact LeO.refl _)
      | (with_reducible exact LeO.none _)
      | (with_reducible refine LeO.ite ?_ ?_)
      | (with_reducible refine LeO.bind ?_ (fun _ => ?_))
      | exact ih0 _ _ _ _ _ _
      | exact LeO.none _
      | refine LeO.ite ?_ ?_
      | refine LeO.bind ?_ (fun _ => ?_)
set_option maxHeartbeats 8000000 in
set_option maxRecDepth 100000 in
theorem placement_Find.calls (k : Nat) (a0_0 : Int) (A0_1 : Option Addr) (c0_1 : Nat) (l0_1 : List Int) (A0_2 : Option Addr) (c0_2 : Nat) (l0_2 : List (List (S41))) (a1 : Int) (a2 : Int) (r1 : Int) (r2 : Int) (r3 : Int) (r4 : Bool) (w : World) (hr0_1 : Kd.C (Kd.int .i64) w A0_1 l0_1.length l0_1) (hc0_1 : l0_1.length ≤ c0_1) (hr0_2 : Kd.C (Kd.slice 41 k41) w A0_2 l0_2.length l0_2) (hc0_2 : l0_2.length ≤ c0_2) (h : placement_Find.f k a0_0 l0_1 l0_2 a1 a2 = some (r1, r2, r3, r4)) :
    Calls Try.prog 26 #[.agg #[.int .i64 a0_0, .slice A0_1 l0_1.length c0_1, .slice A0_2 l0_2.length c0_2], .int .i64 a1, .int .i64 a2] w fun e w' => e = .returned (.tuple #[.agg #[.int .i64 r1, .int .i64 r2, .int .i64 r3], .bool r4]) ∧ Below w.heap.size w w' := by
  have hu25 := Try.underlying25
  have hu41 := Try.underlying41
  have HR0_1 := Aside0.mk hr0_1
  have HC0_1 := Aside0.mk hc0_1
  clear hr0_1 hc0_1
  have HR0_2 := Aside0.mk hr0_2
  have HC0_2 := Aside0.mk hc0_2
  clear hr0_2 hc0_2
  have HB := Aside0.mk (Below.refl w.heap.size w)
  have H : (if a1 < 0 then (placement_Find.j0 k a1 a2 true a0_0 l0_1 l0_2) else (placement_Find.j0 k a1 a2 (decide (a1 ≥ (l0_2.length : Int))) a0_0 l0_1 l0_2)) = some (r1, r2, r3, r4) := h
  clear h
  have HC4 := Aside0.mk H
  clear H
  go_enter Try.func26, Try.ntmps26
  go_upto_region 1 with (first | ((with_reducible refine gate_dst (N := 3) rfl ?_); (try (refine gate_guard (by rfl) ?_; dsimp only)); refine box_event ?hg (N := 3) ?hd (cs := #[.int .i64 a0_0, .slice A0_1 l0_1.length c0_1, .slice A0_2 l0_2.length c0_2]) (t := 25) ?hr ?_; (case hd => rfl); (case hg => rfl); (case hr => first | (go_simp; done) | (go_simp; rfl)); intro gb261 hg w5 hbox hb; have n0_ := Aside0.mk (below_step (by repeat (first | (with_reducible first | exact HB.out | apply below_alloc | apply pw_below_drewN | apply below_drew1) | exact HB.out)) hb); have n1_ := Aside0.mk (hbox); have n2_ := Aside0.mk ((by rw [hg]; exact (below_size (by repeat (first | (with_reducible first | exact HB.out | apply below_alloc | apply pw_below_drewN | apply below_drew1) | exact HB.out))) : w.heap.size ≤ gb261)); have n3_ := Aside0.mk ((by rw [hg]; exact (below_size (by repeat (first | (with_reducible first | exact HB.out | apply below_alloc | apply pw_below_drewN | apply below_drew1) | exact HB.out))) : w.heap.size ≤ gb261)); clear HB; have HB := n0_; have BK261 := n1_; have GW261 := n2_; have GE261 := n3_; clear n0_ n1_ n2_ n3_; clear hb hbox hg) | ((with_reducible refine gate_dst (N := 6) rfl ?_); (try (refine gate_guard (by rfl) ?_; dsimp only)); refine box_event ?hg (N := 6) ?hd (cs := #[.int .i64 0, .int .i64 0, .int .i64 0]) (t := 41) ?hr ?_; (case hd => rfl); (case hg => rfl); (case hr => first | (go_simp; done) | (go_simp; rfl)); intro gb262 hg w6 hbox hb; have n0_ := Aside0.mk (blk_below (g := gb261) (o := .cells #[.int .i64 a0_0, .slice A0_1 l0_1.length c0_1, .slice A0_2 l0_2.length c0_2] 25 (0, 0)) (by (with_reducible repeat (first | refine blk_drewN ?_ _ | refine blk_drew ?_ | refine blk_alloc ?_ _)); exact BK261.out) hb); have n1_ := Aside0.mk (below_step (by repeat (first | (with_reducible first | exact HB.out | apply below_alloc | apply pw_below_drewN | apply below_drew1 | refine below_set ?_ GE261.out) | exact HB.out)) hb); have n2_ := Aside0.mk (hbox); have n3_ := Aside0.mk ((by rw [hg]; exact (below_size (by repeat (first | (with_reducible first | exact HB.out | apply below_alloc | apply pw_below_drewN | apply below_drew1 | refine below_set ?_ GE261.out) | exact HB.out))) : w.heap.size ≤ gb262)); have n4_ := Aside0.mk ((by rw [hg]; exact (below_size (by repeat (first | (with_reducible first | exact HB.out | apply below_alloc | apply pw_below_drewN | apply below_drew1 | refine below_set ?_ GE261.out) | exact HB.out))) : w.heap.size ≤ gb262)); have n5_ := Aside0.mk ((by rw [hg]; exact Nat.ne_of_lt (blk_lt (g := gb261) (o := .cells #[.int .i64 a0_0, .slice A0_1 l0_1.length c0_1, .slice A0_2 l0_2.length c0_2] 25 (0, 0)) (by (with_reducible repeat (first | refine blk_drewN ?_ _ | refine blk_drew ?_ | refine blk_alloc ?_ _)); exact BK261.out)) : gb261 ≠ gb262)); have n6_ := Aside0.mk ((by rw [hg]; exact Nat.ne_of_gt (blk_lt (g := gb261) (o := .cells #[.int .i64 a0_0, .slice A0_1 l0_1.length c0_1, .slice A0_2 l0_2.length c0_2] 25 (0, 0)) (by (with_reducible repeat (first | refine blk_drewN ?_ _ | refine blk_drew ?_ | refine blk_alloc ?_ _)); exact BK261.out)) : gb262 ≠ gb261)); clear BK261; clear HB; have BK261 := n0_; have HB := n1_; have BK262 := n2_; have GW262 := n3_; have GE262 := n4_; have NB261_262 := n5_; have NB262_261 := n6_; clear n0_ n1_ n2_ n3_ n4_ n5_ n6_; clear hb hbox hg))
  (try simp only [Act.put, List.setIfInBounds_toArray, List.set_cons_zero, List.set_cons_succ])
  go_cut [17] (fun v17 wc => ∃ (kq : Nat) (x17_3 : Bool), v17 = .bool x17_3 ∧ Aside0 (placement_Find.j0 kq a1 a2 x17_3 a0_0 l0_1 l0_2 = some (r1, r2, r3, r4)) ∧ Aside0 (kq ≤ k) ∧ Aside0 (wc.heap[gb261]? = some (.cells #[.int .i64 a0_0, (.slice A0_1 l0_1.length c0_1), (.slice A0_2 l0_2.length c0_2)] 25 (0, 0))) ∧ Aside0 (wc.heap[gb262]? = some (.cells #[.int .i64 0, .int .i64 0, .int .i64 0] 41 (0, 0))) ∧ Aside0 (Below w.heap.size w wc))
  case first =>
    have H := HC4.out
    clear HC4
    by_cases c7 : a1 < 0
    · rw [if_pos c7] at H
      have c7b0 : decide (a1 < 0) = true := decide_eq_true c7
      clear c7
      (first | rw [c7b0] | (simp only [i64_w, i32_w]; rw [c7b0]) | skip)
      have H' := Aside0.mk H
      clear H
      go_wp2
      go_meet
      case rel => exact ⟨_, (true), (by first | rfl | (simp; done) | (simp [*]; done)), H', ⟨by first | omega | exact Nat.le_refl _⟩, ⟨by (with_reducible repeat (first | refine blk_drewN ?_ _ | refine blk_drew ?_ | refine blk_alloc ?_ _)); exact BK261.out⟩, ⟨by (with_reducible repeat (first | refine blk_drewN ?_ _ | refine blk_drew ?_ | refine blk_alloc ?_ _)); exact BK262.out⟩, ⟨by repeat (first | (with_reducible first | exact HB.out | apply below_alloc | apply pw_below_drewN | apply below_drew1 | refine below_set ?_ GE261.out | refine below_set ?_ GE262.out) | exact HB.out)⟩⟩
    · rw [if_neg c7] at H
      have c7b0 : decide (a1 < 0) = false := decide_eq_false c7
      clear c7
      (first | rw [c7b0] | (simp only [i64_w, i32_w]; rw [c7b0]) | skip)
      have H' := Aside0.mk H
      clear H
      have hnb8 := NB261_262.out
      have hnc8 := NB262_261.out
      have hcz9_0 : w6.cell? ⟨gb261, 0, none⟩ = some (.int .i64 a0_0) := (blk_cell BK261.out 0).trans rfl
      have hcz9_1 : w6.cell? ⟨gb261, 1, none⟩ = some (.slice A0_1 l0_1.length c0_1) := (blk_cell BK261.out 1).trans rfl
      have hcz9_2 : w6.cell? ⟨gb261, 2, none⟩ = some (.slice A0_2 l0_2.length c0_2) := (blk_cell BK261.out 2).trans rfl
      have hfz9_0 := blk_frozen BK261.out 0
      have hfz9_1 := blk_frozen BK261.out 1
      have hfz9_2 := blk_frozen BK261.out 2
      go_wp2
      go_meet
      case rel => exact ⟨_, (decide (a1 ≥ (l0_2.length : Int))), (by first | rfl | (simp; done) | (simp [*]; done)), H', ⟨by first | omega | exact Nat.le_refl _⟩, ⟨by (with_reducible repeat (first | refine blk_drewN ?_ _ | refine blk_drew ?_ | refine blk_alloc ?_ _)); exact BK261.out⟩, ⟨by (with_reducible repeat (first | refine blk_drewN ?_ _ | refine blk_drew ?_ | refine blk_alloc ?_ _)); exact BK262.out⟩, ⟨by repeat (first | (with_reducible first | exact HB.out | apply below_alloc | apply pw_below_drewN | apply below_drew1 | refine below_set ?_ GE261.out | refine below_set ?_ GE262.out) | exact HB.out)⟩⟩
  case rest =>
    clear HC4
    try clear c2
    try clear p2
    try clear c7
    try clear c7b0
    try clear c8
    try clear hcz9_0
    try clear hcz9_1
    try clear hcz9_2
    try clear hfz9_0
    try clear hfz9_1
    try clear hfz9_2
    obtain ⟨kq, x17_3, rfl, HA, HJ3, BK261, BK262, HB⟩ := hcut
    cases kq with
    | zero => exact absurd HA.out (by simp [placement_Find.j0])
    | succ kj3 =>
      have H := HA.out
      clear HA
      simp only [placement_Find.j0] at H
      by_cases c10 : x17_3 = true
      · subst c10
        have H1 : (some (0, 0, 0, false)) = some (r1, r2, r3, r4) := by rw [if_pos rfl] at H; exact H
        clear H
        have H := H1
        clear H1
        simp only [Option.some.injEq, Prod.mk.injEq] at H
        obtain ⟨rfl, rfl, rfl, rfl⟩ := H
        have hnb11 := NB262_261.out
        have hnc11 := NB261_262.out
        have hcz12_0 : wc.cell? ⟨gb262, 0, none⟩ = some (.int .i64 0) := (blk_cell BK262.out 0).trans rfl
        have hcz12_1 : wc.cell? ⟨gb262, 1, none⟩ = some (.int .i64 0) := (blk_cell BK262.out 1).trans rfl
        have hcz12_2 : wc.cell? ⟨gb262, 2, none⟩ = some (.int .i64 0) := (blk_cell BK262.out 2).trans rfl
        have hfz12_0 := blk_frozen BK262.out 0
        have hfz12_1 := blk_frozen BK262.out 1
        have hfz12_2 := blk_frozen BK262.out 2
        go_wp2
        refine bodyPost_ret (results_ct rfl _ _ gb262 41 #[.int .i64 0, .int .i64 0, .int .i64 0] (0, 0) _ rfl (by (with_reducible repeat (first | refine blk_drewN ?_ _ | refine blk_drew ?_ | refine blk_alloc ?_ _)); refine blk_put (cs := #[.int .i64 0, .int .i64 0, .int .i64 0]) ?_ 2 _ rfl; (with_reducible repeat (first | refine blk_drewN ?_ _ | refine blk_drew ?_ | refine blk_alloc ?_ _)); refine blk_put (cs := #[.int .i64 0, .int .i64 0, .int .i64 0]) ?_ 1 _ rfl; (with_reducible repeat (first | refine blk_drewN ?_ _ | refine blk_drew ?_ | refine blk_alloc ?_ _)); refine blk_put (cs := #[.int .i64 0, .int .i64 0, .int .i64 0]) ?_ 0 _ rfl; (with_reducible repeat (first | refine blk_drewN ?_ _ | refine blk_drew ?_ | refine blk_alloc ?_ _)); exact BK262.out) Try.underlying41 rfl (by kernel_rfl)) rfl ?_
        exact ⟨by first | rfl | (simp [errW_none, errW_some] <;> rfl) | (simp [*, errW_none, errW_some] <;> rfl), by repeat (first | (with_reducible first | exact HB.out | apply below_alloc | apply pw_below_drewN | apply below_drew1 | refine below_set ?_ GE261.out | refine below_set ?_ GE262.out) | exact HB.out)⟩
      · replace c10 := Bool.eq_false_iff.mpr c10
        subst c10
        have H1 : (if 0 ≤ a1 then (if a1 < (l0_2.length : Int) then ((placement_owner.f (rd_L2 l0_2 a1) a2).bind fun t264 => (if t264 < 0 then (some (0, 0, 0, false)) else (if 0 ≤ t264 then (if t264 < ((rd_L2 l0_2 a1).length : Int) then (some ((rd_T41 (rd_L2 l0_2 a1) t264).f0, (rd_T41 (rd_L2 l0_2 a1) t264).f1, (rd_T41 (rd_L2 l0_2 a1) t264).f2, true)) else (none)) else (none)))) else (none)) else (none)) = some (r1, r2, r3, r4) := by rw [if_neg (show ¬ (false = true) by decide)] at H; exact H
        clear H
        have H := H1
        clear H1
        by_cases c13 : 0 ≤ a1
        · rw [if_pos c13] at H
          have c13b0 : decide (0 ≤ a1) = true := decide_eq_true c13
          clear c13
          by_cases c14 : a1 < (l0_2.length : Int)
          · rw [if_pos c14] at H
            have c14b0 : decide (a1 < (l0_2.length : Int)) = true := decide_eq_true c14
            clear c14
            replace H := Option.bind_eq_some_iff.mp H
            obtain ⟨t264, A150, H⟩ := H
            replace H : (if t264 < 0 then (some (0, 0, 0, false)) else (if 0 ≤ t264 then (if t264 < ((rd_L2 l0_2 a1).length : Int) then (some ((rd_T41 (rd_L2 l0_2 a1) t264).f0, (rd_T41 (rd_L2 l0_2 a1) t264).f1, (rd_T41 (rd_L2 l0_2 a1) t264).f2, true)) else (none)) else (none))) = some (r1, r2, r3, r4) := H
            have A15 := Aside0.mk A150
            clear A150
            by_cases c16 : t264 < 0
            · rw [if_pos c16] at H
              have c16b0 : decide (t264 < 0) = true := decide_eq_true c16
              clear c16
              simp only [Option.some.injEq, Prod.mk.injEq] at H
              obtain ⟨rfl, rfl, rfl, rfl⟩ := H
              have hnb17 := NB261_262.out
              have hnc17 := NB262_261.out
              have hcz18_0 : wc.cell? ⟨gb261, 0, none⟩ = some (.int .i64 a0_0) := (blk_cell BK261.out 0).trans rfl
              have hcz18_1 : wc.cell? ⟨gb261, 1, none⟩ = some (.slice A0_1 l0_1.length c0_1) := (blk_cell BK261.out 1).trans rfl
              have hcz18_2 : wc.cell? ⟨gb261, 2, none⟩ = some (.slice A0_2 l0_2.length c0_2) := (blk_cell BK261.out 2).trans rfl
              have hfz18_0 := blk_frozen BK261.out 0
              have hfz18_1 := blk_frozen BK261.out 1
              have hfz18_2 := blk_frozen BK261.out 2
              have p263 : 0 ≤ (a1 : Int) := of_decide_eq_true (by first | (with_reducible assumption) | assumption)
              have q263 : a1 < (l0_2.length : Int) := of_decide_eq_true (by first | (with_reducible assumption) | assumption)
              obtain ⟨ad263, A263_0, c263_0, e263, hx263_0, hl263_0, hi263_0⟩ := at_L2 HR0_2.out a1 p263 q263
              cases e263
              replace hx263_0 := (HB.out.cell (World.block_lt_of_cell? w _ hx263_0)).trans hx263_0
              have HR263_0 := Aside0.mk hi263_0
              have HC263_0 := Aside0.mk hl263_0
              clear hi263_0 hl263_0
              replace p263 := eq_true p263
              replace q263 := eq_true q263
              go_wp2_with (first | ((with_reducible refine gate_callee (f := 66) rfl ?_); refine goesL_ (some 25) rfl rfl Try.func66 (by kernel_rfl) rfl #[.slice A263_0 (rd_L2 l0_2 a1).length c263_0, .int .i64 a2] rfl (by (try simp only [List.map_toArray, List.map_cons, List.map_nil]); first | done | rfl | (simp only [List.length_drop, List.length_take]; rfl)) ?_; (with_reducible refine (placement_owner.calls _ _ (rd_L2 l0_2 a1) a2 t264 _ ?side1 ?side2 A15.out).mono ?_); (case side1 => repeat (first | exact (Kd.C_below HR263_0.out HB.out) | (with_reducible refine Kd.C_alloc ?_ _) | (with_reducible refine Kd.C_drewN ?_ _) | (with_reducible refine Kd.C_drew ?_))); (case side2 => exact HC263_0.out); rintro e w19 ⟨rfl, hb⟩; refine ⟨_, rfl, ?_⟩; have n0_ := Aside0.mk (blk_below (g := gb261) (o := .cells #[.int .i64 a0_0, .slice A0_1 l0_1.length c0_1, .slice (some ad263) l0_2.length c0_2] 25 (0, 0)) (by (with_reducible repeat (first | refine blk_drewN ?_ _ | refine blk_drew ?_ | refine blk_alloc ?_ _)); exact BK261.out) hb); have n1_ := Aside0.mk (blk_below (g := gb262) (o := .cells #[.int .i64 0, .int .i64 0, .int .i64 0] 41 (0, 0)) (by (with_reducible repeat (first | refine blk_drewN ?_ _ | refine blk_drew ?_ | refine blk_alloc ?_ _)); exact BK262.out) hb); have n2_ := Aside0.mk (below_step (by repeat (first | (with_reducible first | exact HB.out | apply below_alloc | apply pw_below_drewN | apply below_drew1 | refine below_set ?_ GE261.out | refine below_set ?_ GE262.out) | exact HB.out)) hb); clear BK261; clear BK262; clear HB; have BK261 := n0_; have BK262 := n1_; have HB := n2_; clear n0_ n1_ n2_; (try clear hb); (try clear hb2); (try clear hk); (try clear hi); have hcz20_0 : w19.cell? ⟨gb262, 0, none⟩ = some (.int .i64 0) := (blk_cell BK262.out 0).trans rfl; have hcz20_1 : w19.cell? ⟨gb262, 1, none⟩ = some (.int .i64 0) := (blk_cell BK262.out 1).trans rfl; have hcz20_2 : w19.cell? ⟨gb262, 2, none⟩ = some (.int .i64 0) := (blk_cell BK262.out 2).trans rfl; have hfz20_0 := blk_frozen BK262.out 0; have hfz20_1 := blk_frozen BK262.out 1; have hfz20_2 := blk_frozen BK262.out 2))
              refine bodyPost_ret (results_ct rfl _ _ gb262 41 #[.int .i64 0, .int .i64 0, .int .i64 0] (0, 0) _ rfl (by (with_reducible repeat (first | refine blk_drewN ?_ _ | refine blk_drew ?_ | refine blk_alloc ?_ _)); refine blk_put (cs := #[.int .i64 0, .int .i64 0, .int .i64 0]) ?_ 2 _ rfl; (with_reducible repeat (first | refine blk_drewN ?_ _ | refine blk_drew ?_ | refine blk_alloc ?_ _)); refine blk_put (cs := #[.int .i64 0, .int .i64 0, .int .i64 0]) ?_ 1 _ rfl; (with_reducible repeat (first | refine blk_drewN ?_ _ | refine blk_drew ?_ | refine blk_alloc ?_ _)); refine blk_put (cs := #[.int .i64 0, .int .i64 0, .int .i64 0]) ?_ 0 _ rfl; (with_reducible repeat (first | refine blk_drewN ?_ _ | refine blk_drew ?_ | refine blk_alloc ?_ _)); exact BK262.out) Try.underlying41 rfl (by kernel_rfl)) rfl ?_
              exact ⟨by first | rfl | (simp [errW_none, errW_some] <;> rfl) | (simp [*, errW_none, errW_some] <;> rfl), by repeat (first | (with_reducible first | exact HB.out | apply below_alloc | apply pw_below_drewN | apply below_drew1 | refine below_set ?_ GE261.out | refine below_set ?_ GE262.out) | exact HB.out)⟩
            · rw [if_neg c16] at H
              have c16b0 : decide (t264 < 0) = false := decide_eq_false c16
              clear c16
              by_cases c21 : 0 ≤ t264
              · rw [if_pos c21] at H
                have c21b0 : decide (0 ≤ t264) = true := decide_eq_true c21
                clear c21
                by_cases c22 : t264 < ((rd_L2 l0_2 a1).length : Int)
                · rw [if_pos c22] at H
                  have c22b0 : decide (t264 < ((rd_L2 l0_2 a1).length : Int)) = true := decide_eq_true c22
                  clear c22
                  simp only [Option.some.injEq, Prod.mk.injEq] at H
                  obtain ⟨rfl, rfl, rfl, rfl⟩ := H
                  have hnb23 := NB261_262.out
                  have hnc23 := NB262_261.out
                  have hcz24_0 : wc.cell? ⟨gb261, 0, none⟩ = some (.int .i64 a0_0) := (blk_cell BK261.out 0).trans rfl
                  have hcz24_1 : wc.cell? ⟨gb261, 1, none⟩ = some (.slice A0_1 l0_1.length c0_1) := (blk_cell BK261.out 1).trans rfl
                  have hcz24_2 : wc.cell? ⟨gb261, 2, none⟩ = some (.slice A0_2 l0_2.length c0_2) := (blk_cell BK261.out 2).trans rfl
                  have hfz24_0 := blk_frozen BK261.out 0
                  have hfz24_1 := blk_frozen BK261.out 1
                  have hfz24_2 := blk_frozen BK261.out 2
                  have p263 : 0 ≤ (a1 : Int) := of_decide_eq_true (by first | (with_reducible assumption) | assumption)
                  have q263 : a1 < (l0_2.length : Int) := of_decide_eq_true (by first | (with_reducible assumption) | assumption)
                  obtain ⟨ad263, A263_0, c263_0, e263, hx263_0, hl263_0, hi263_0⟩ := at_L2 HR0_2.out a1 p263 q263
                  cases e263
                  replace hx263_0 := (HB.out.cell (World.block_lt_of_cell? w _ hx263_0)).trans hx263_0
                  have HR263_0 := Aside0.mk hi263_0
                  have HC263_0 := Aside0.mk hl263_0
                  clear hi263_0 hl263_0
                  replace p263 := eq_true p263
                  replace q263 := eq_true q263
                  go_wp2_with (first | ((with_reducible refine gate_callee (f := 66) rfl ?_); refine goesL_ (some 25) rfl rfl Try.func66 (by kernel_rfl) rfl #[.slice A263_0 (rd_L2 l0_2 a1).length c263_0, .int .i64 a2] rfl (by (try simp only [List.map_toArray, List.map_cons, List.map_nil]); first | done | rfl | (simp only [List.length_drop, List.length_take]; rfl)) ?_; (with_reducible refine (placement_owner.calls _ _ (rd_L2 l0_2 a1) a2 t264 _ ?side1 ?side2 A15.out).mono ?_); (case side1 => repeat (first | exact (Kd.C_below HR263_0.out HB.out) | (with_reducible refine Kd.C_alloc ?_ _) | (with_reducible refine Kd.C_drewN ?_ _) | (with_reducible refine Kd.C_drew ?_))); (case side2 => exact HC263_0.out); rintro e w25 ⟨rfl, hb⟩; refine ⟨_, rfl, ?_⟩; have n0_ := Aside0.mk (blk_below (g := gb261) (o := .cells #[.int .i64 a0_0, .slice A0_1 l0_1.length c0_1, .slice (some ad263) l0_2.length c0_2] 25 (0, 0)) (by (with_reducible repeat (first | refine blk_drewN ?_ _ | refine blk_drew ?_ | refine blk_alloc ?_ _)); exact BK261.out) hb); have n1_ := Aside0.mk (blk_below (g := gb262) (o := .cells #[.int .i64 0, .int .i64 0, .int .i64 0] 41 (0, 0)) (by (with_reducible repeat (first | refine blk_drewN ?_ _ | refine blk_drew ?_ | refine blk_alloc ?_ _)); exact BK262.out) hb); have n2_ := Aside0.mk (below_step (by repeat (first | (with_reducible first | exact HB.out | apply below_alloc | apply pw_below_drewN | apply below_drew1 | refine below_set ?_ GE261.out | refine below_set ?_ GE262.out) | exact HB.out)) hb); clear BK261; clear BK262; clear HB; have BK261 := n0_; have BK262 := n1_; have HB := n2_; clear n0_ n1_ n2_; (try clear hb); (try clear hb2); (try clear hk); (try clear hi); have hcz26_0 : w25.cell? ⟨gb261, 0, none⟩ = some (.int .i64 a0_0) := (blk_cell BK261.out 0).trans rfl; have hcz26_1 : w25.cell? ⟨gb261, 1, none⟩ = some (.slice A0_1 l0_1.length c0_1) := (blk_cell BK261.out 1).trans rfl; have hcz26_2 : w25.cell? ⟨gb261, 2, none⟩ = some (.slice (some ad263) l0_2.length c0_2) := (blk_cell BK261.out 2).trans rfl; have hfz26_0 := blk_frozen BK261.out 0; have hfz26_1 := blk_frozen BK261.out 1; have hfz26_2 := blk_frozen BK261.out 2; have p265 : 0 ≤ (a1 : Int) := of_decide_eq_true (by first | (with_reducible assumption) | assumption); have q265 : a1 < (l0_2.length : Int) := of_decide_eq_true (by first | (with_reducible assumption) | assumption); obtain ⟨ad265, A265_0, c265_0, e265, hx265_0, hl265_0, hi265_0⟩ := at_L2 HR0_2.out a1 p265 q265; obtain rfl : ad263 = ad265 := (by injection e265); replace hx265_0 := (HB.out.cell (World.block_lt_of_cell? w _ hx265_0)).trans hx265_0; have HR265_0 := Aside0.mk hi265_0; have HC265_0 := Aside0.mk hl265_0; clear hi265_0 hl265_0; replace p265 := eq_true p265; replace q265 := eq_true q265; have p266 : 0 ≤ (t264 : Int) := of_decide_eq_true (by first | (with_reducible assumption) | assumption); have q266 : t264 < ((rd_L2 l0_2 a1).length : Int) := of_decide_eq_true (by first | (with_reducible assumption) | assumption); obtain ⟨ad266, e266, hx266_0, hx266_1, hx266_2⟩ := at_T41 HR265_0.out t264 p266 q266; cases e266; replace hx266_0 := (HB.out.cell (World.block_lt_of_cell? w _ hx266_0)).trans hx266_0; replace hx266_1 := (HB.out.cell (World.block_lt_of_cell? w _ hx266_1)).trans hx266_1; replace hx266_2 := (HB.out.cell (World.block_lt_of_cell? w _ hx266_2)).trans hx266_2; replace p266 := eq_true p266; replace q266 := eq_true q266; have hcz27_0 : w25.cell? ⟨gb262, 0, none⟩ = some (.int .i64 0) := (blk_cell BK262.out 0).trans rfl; have hcz27_1 : w25.cell? ⟨gb262, 1, none⟩ = some (.int .i64 0) := (blk_cell BK262.out 1).trans rfl; have hcz27_2 : w25.cell? ⟨gb262, 2, none⟩ = some (.int .i64 0) := (blk_cell BK262.out 2).trans rfl; have hfz27_0 := blk_frozen BK262.out 0; have hfz27_1 := blk_frozen BK262.out 1; have hfz27_2 := blk_frozen BK262.out 2))
                  refine bodyPost_ret (results_ct rfl _ _ gb262 41 #[.int .i64 ((rd_T41 (rd_L2 l0_2 a1) t264).f0), .int .i64 ((rd_T41 (rd_L2 l0_2 a1) t264).f1), .int .i64 ((rd_T41 (rd_L2 l0_2 a1) t264).f2)] (0, 0) _ rfl (by (with_reducible repeat (first | refine blk_drewN ?_ _ | refine blk_drew ?_ | refine blk_alloc ?_ _)); refine blk_put (cs := #[.int .i64 ((rd_T41 (rd_L2 l0_2 a1) t264).f0), .int .i64 ((rd_T41 (rd_L2 l0_2 a1) t264).f1), .int .i64 0]) ?_ 2 _ rfl; (with_reducible repeat (first | refine blk_drewN ?_ _ | refine blk_drew ?_ | refine blk_alloc ?_ _)); refine blk_put (cs := #[.int .i64 ((rd_T41 (rd_L2 l0_2 a1) t264).f0), .int .i64 0, .int .i64 0]) ?_ 1 _ rfl; (with_reducible repeat (first | refine blk_drewN ?_ _ | refine blk_drew ?_ | refine blk_alloc ?_ _)); refine blk_put (cs := #[.int .i64 0, .int .i64 0, .int .i64 0]) ?_ 0 _ rfl; (with_reducible repeat (first | refine blk_drewN ?_ _ | refine blk_drew ?_ | refine blk_alloc ?_ _)); exact BK262.out) Try.underlying41 rfl (by kernel_rfl)) rfl ?_
                  exact ⟨by first | rfl | (simp [errW_none, errW_some] <;> rfl) | (simp [*, errW_none, errW_some] <;> rfl), by repeat (first | (with_reducible first | exact HB.out | apply below_alloc | apply pw_below_drewN | apply below_drew1 | refine below_set ?_ GE261.out | refine below_set ?_ GE262.out) | exact HB.out)⟩
                · rw [if_neg c22] at H
                  exact absurd H (by simp)
              · rw [if_neg c21] at H
                exact absurd H (by simp)
          · rw [if_neg c14] at H
            exact absurd H (by simp)
        · rw [if_neg c13] at H
          exact absurd H (by simp)

/-! ### placement_stays: function 78 -/
def placement_stays.f (a0_0 : Int) (a0_1 : Int) (a0_2 : Int) : Option (Bool) := some (a0_1 != 3)
set_option maxHeartbeats 8000000 in
set_option maxRecDepth 100000 in
theorem placement_stays.calls (a0_0 : Int) (a0_1 : Int) (a0_2 : Int) (r : Bool) (w : World) (h : placement_stays.f a0_0 a0_1 a0_2 = some r) :
    Calls Try.prog 78 #[.agg #[.int .i64 a0_0, .int .i64 a0_1, .int .i64 a0_2]] w fun e w' => e = .returned (.bool r) ∧ Below w.heap.size w w' := by
  have hu41 := Try.underlying41
  have HB := Aside0.mk (Below.refl w.heap.size w)
  have H : (some (a0_1 != 3)) = some r := h
  clear h
  obtain rfl := Option.some.inj H
  go_enter Try.func78, Try.ntmps78
  go_wp2_with (first | ((with_reducible refine gate_dst (N := 1) rfl ?_); refine box_event ?hg (N := 1) ?hd (cs := #[.int .i64 a0_0, .int .i64 a0_1, .int .i64 a0_2]) (t := 41) ?hr ?_; (case hd => rfl); (case hg => rfl); (case hr => first | (go_simp; done) | (go_simp; rfl)); intro gb267 hg w2 hbox hb; have n0_ := Aside0.mk (below_step (by repeat (first | (with_reducible first | exact HB.out | apply below_alloc | apply pw_below_drewN | apply below_drew1) | exact HB.out)) hb); have n1_ := Aside0.mk (hbox); have n2_ := Aside0.mk ((by rw [hg]; exact (below_size (by repeat (first | (with_reducible first | exact HB.out | apply below_alloc | apply pw_below_drewN | apply below_drew1) | exact HB.out))) : w.heap.size ≤ gb267)); have n3_ := Aside0.mk ((by rw [hg]; exact (below_size (by repeat (first | (with_reducible first | exact HB.out | apply below_alloc | apply pw_below_drewN | apply below_drew1) | exact HB.out))) : w.heap.size ≤ gb267)); clear HB; have HB := n0_; have BK267 := n1_; have GW267 := n2_; have GE267 := n3_; clear n0_ n1_ n2_ n3_; clear hb hbox hg; have hcz3_0 : w2.cell? ⟨gb267, 0, none⟩ = some (.int .i64 a0_0) := (blk_cell BK267.out 0).trans rfl; have hcz3_1 : w2.cell? ⟨gb267, 1, none⟩ = some (.int .i64 a0_1) := (blk_cell BK267.out 1).trans rfl; have hcz3_2 : w2.cell? ⟨gb267, 2, none⟩ = some (.int .i64 a0_2) := (blk_cell BK267.out 2).trans rfl; have hfz3_0 := blk_frozen BK267.out 0; have hfz3_1 := blk_frozen BK267.out 1; have hfz3_2 := blk_frozen BK267.out 2))
  go_ret
  exact ⟨by first | rfl | (simp [errW_none, errW_some] <;> rfl) | (simp [*, errW_none, errW_some] <;> rfl), by repeat (first | (with_reducible first | exact HB.out | apply below_alloc | apply pw_below_drewN | apply below_drew1 | refine below_set ?_ GE267.out) | exact HB.out)⟩

end Go.Proofs.Ytmdebnfjhnhcjaa.QB
