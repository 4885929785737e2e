/- What functions of the translation come to, each as a Lean function, and a proof that the call comes to just that; or a law's row, out of its plain law. Written by mp.py, a program of this session, which runs the printer of the kit with stand-in bodies for some library functions.
   What the call of tsz.Encode comes to.
   The call of tsz.Encode as a Lean function laid by hand (a stand-in for the printer). -/
import Derived.Test.YtmnlbedgkjnodaaDoorZTszOne0
import Derived.Test.YtmnlbedgkjnodaaDoorZTszOne7
import Derived.Test.YtmnlbedgkjnodaaDoorZTszOne2
import Derived.Test.YtmnlbedgkjnodaaDoorZTszOne1
set_option linter.unusedSimpArgs false
set_option linter.unusedVariables false
namespace Go.Proofs.YtmnlbedgkjnodaaDoor.QB
open Go.RowKit Go.Proofs.YtmnlbedgkjnodaaDoorW.PrintWords Go.Proofs.YtmnlbedgkjnodaaDoorW.PrintLast Go.Proofs.YtmnlbedgkjnodaaDoorW.PrintMore
attribute [local go_sem] max2_int min2_int max_two min_two max_three min_three max_four min_four   -- for this text's walks alone
mutual
def tsz_Check.l0 : Nat → Int → List (S33) → Int → Int → Option (Int)
  | 0, _, _, _, _ => none
  | k + 1, x3, x9, x10, x11 => if x11 < x10 then (if 0 ≤ x11 then (if x11 < (x9.length : Int) then (if ((rd_T33 x9 x11).f0) < 0 then (tsz_Check.j1 k x3 x9 x10 x11 true ((rd_T33 x9 x11).f0) ((rd_T33 x9 x11).f1) ((rd_T33 x9 x11).f2)) else (tsz_Check.j1 k x3 x9 x10 x11 (decide (((rd_T33 x9 x11).f0) > 1099511627776)) ((rd_T33 x9 x11).f0) ((rd_T33 x9 x11).f1) ((rd_T33 x9 x11).f2))) else (none)) else (none)) else (some 0)
def tsz_Check.j1 : Nat → Int → List (S33) → Int → Int → Bool → Int → Int → Int → Option (Int)
  | 0, _, _, _, _, _, _, _, _ => none
  | k + 1, x3, x9, x10, x11, x15, x103000, x103001, x103002 => if x15 = true then (some 1) else (if x103000 ≤ x3 then (some 51) else (tsz_Check.l0 k x103000 x9 x10 (wrap64 (x11 + 1))))
end
def tsz_Check.f (k : Nat) (l0 : List (S33)) : Option (Int) := if (l0.length : Int) > 512 then (some 52) else (tsz_Check.l0 k (-1) l0 (l0.length : Int) 0)
set_option maxHeartbeats 8000000 in
set_option maxRecDepth 100000 in
theorem tsz_Check.calls (k : Nat) (A0 : Option Addr) (c0 : Nat) (l0 : List (S33)) (r : Int) (w : World) (hr0 : Kd.C k33 w A0 l0.length l0) (hc0 : l0.length ≤ c0) (h : tsz_Check.f k l0 = some r) :
    Calls Tryd.prog 17 #[.slice A0 l0.length c0] w fun e w' => e = .returned (.int .i64 r) ∧ Below w.heap.size w w' := by
  have hu33 := Tryd.underlying33
  have HR0 := Aside0.mk hr0
  have HC0 := Aside0.mk hc0
  clear hr0 hc0
  have HB := Aside0.mk (Below.refl w.heap.size w)
  have H : (if (l0.length : Int) > 512 then (some 52) else (tsz_Check.l0 k (-1) l0 (l0.length : Int) 0)) = some r := h
  clear h
  by_cases c2 : (l0.length : Int) > 512
  · rw [if_pos c2] at H
    have c2b0 : decide (512 < (l0.length : Int)) = true := decide_eq_true c2
    have c2b1 : decide (512 < l0.length) = true := decide_eq_true (by omega)
    clear c2
    obtain rfl := Option.some.inj H
    go_enter Tryd.func17, Tryd.ntmps17
    go_wp2
    go_ret
    exact ⟨by first | rfl | (simp [errW_none, errW_some] <;> rfl) | (simp [*, errW_none, errW_some] <;> rfl), by repeat (first | (with_reducible first | exact HB.out | apply below_alloc | apply pw_below_drewN | apply below_drew1) | exact HB.out)⟩
  · rw [if_neg c2] at H
    have c2b0 : decide (512 < (l0.length : Int)) = false := decide_eq_false c2
    have c2b1 : decide (512 < l0.length) = false := decide_eq_false (by omega)
    clear c2
    have H' := Aside0.mk H
    clear H
    go_enter Tryd.func17, Tryd.ntmps17
    go_wp2
    go_loopg [3, 11] k (fun kq v3 v11 w' => ∃ (x3_1 : Int) (x11_1 : Int), v3 = .int .i64 x3_1 ∧ v11 = .int .i64 x11_1 ∧ Aside0 (tsz_Check.l0 kq x3_1 l0 (l0.length : Int) x11_1 = some r) ∧ Aside0 (kq ≤ k) ∧ Aside0 (Below w.heap.size w w'))
    case atStart => exact ⟨((-1)), (0), (by first | rfl | (simp; done) | (simp [*]; done)), (by first | rfl | (simp; done) | (simp [*]; done)), H', ⟨Nat.le_refl _⟩, ⟨by repeat (first | (with_reducible first | exact HB.out | apply below_alloc | apply pw_below_drewN | apply below_drew1) | exact HB.out)⟩⟩
    case round =>
      clear H'
      try clear c1
      try clear c2
      try clear c2b0
      try clear c2b1
      try clear p2
      obtain ⟨x3_1, x11_1, rfl, rfl, HA, HK1, HB⟩ := hrel
      cases gk with
      | zero => exact absurd HA.out (by simp [tsz_Check.l0])
      | succ k1 =>
        have H := HA.out
        clear HA
        simp only [tsz_Check.l0] at H
        by_cases c3 : x11_1 < (l0.length : Int)
        · rw [if_pos c3] at H
          have c3b0 : decide (x11_1 < (l0.length : Int)) = true := decide_eq_true c3
          clear c3
          by_cases c4 : 0 ≤ x11_1
          · rw [if_pos c4] at H
            have c4b0 : decide (0 ≤ x11_1) = true := decide_eq_true c4
            clear c4
            by_cases c5 : x11_1 < (l0.length : Int)
            · rw [if_pos c5] at H
              have c5b0 : decide (x11_1 < (l0.length : Int)) = true := decide_eq_true c5
              clear c5
              have HC6 := Aside0.mk H
              clear H
              have p101 : 0 ≤ (x11_1 : Int) := of_decide_eq_true (by first | (with_reducible assumption) | assumption)
              have q101 : x11_1 < (l0.length : Int) := of_decide_eq_true (by first | (with_reducible assumption) | assumption)
              obtain ⟨ad101, e101, hx101_0, hx101_1, hx101_2⟩ := at_T33 HR0.out x11_1 p101 q101
              cases e101
              replace hx101_0 := (HB.out.cell (World.block_lt_of_cell? w _ hx101_0)).trans hx101_0
              replace hx101_1 := (HB.out.cell (World.block_lt_of_cell? w _ hx101_1)).trans hx101_1
              replace hx101_2 := (HB.out.cell (World.block_lt_of_cell? w _ hx101_2)).trans hx101_2
              replace p101 := eq_true p101
              replace q101 := eq_true q101
              go_upto_region 7 with (first | ((with_reducible refine gate_dst (N := 5) rfl ?_); refine box_event ?hg (N := 5) ?hd (cs := #[.int .i64 0, .int .u64 0, .int .u64 0]) (t := 33) ?hr ?_; (case hd => rfl); (case hg => rfl); (case hr => first | (go_simp; done) | (go_simp; rfl)); intro gb102 hg w7 hbox hb; have n0_ := Aside0.mk (below_step (by repeat (first | (with_reducible first | exact HB.out | apply below_alloc | apply pw_below_drewN | apply below_drew1) | exact HB.out)) hb); have n1_ := Aside0.mk (hbox); have n2_ := Aside0.mk ((by rw [hg]; exact (below_size (by repeat (first | (with_reducible first | exact HB.out | apply below_alloc | apply pw_below_drewN | apply below_drew1) | exact HB.out))) : w.heap.size ≤ gb102)); have n3_ := Aside0.mk ((by rw [hg]; exact (below_size (by repeat (first | (with_reducible first | exact HB.out | apply below_alloc | apply pw_below_drewN | apply below_drew1) | exact HB.out))) : w.heap.size ≤ gb102)); clear HB; have HB := n0_; have BK102 := n1_; have GW102 := n2_; have GE102 := n3_; clear n0_ n1_ n2_ n3_; clear hb hbox hg; have hcz8_0 : w7.cell? ⟨gb102, 0, none⟩ = some (.int .i64 0) := (blk_cell BK102.out 0).trans rfl; have hcz8_1 : w7.cell? ⟨gb102, 1, none⟩ = some (.int .u64 0) := (blk_cell BK102.out 1).trans rfl; have hcz8_2 : w7.cell? ⟨gb102, 2, none⟩ = some (.int .u64 0) := (blk_cell BK102.out 2).trans rfl; have hfz8_0 := blk_frozen BK102.out 0; have hfz8_1 := blk_frozen BK102.out 1; have hfz8_2 := blk_frozen BK102.out 2))
              (try simp only [Act.put, List.setIfInBounds_toArray, List.set_cons_zero, List.set_cons_succ])
              go_cut [15] (fun v15 wc => ∃ (kq : Nat) (x15_5 : Bool), v15 = .bool x15_5 ∧ Aside0 (tsz_Check.j1 kq x3_1 l0 (l0.length : Int) x11_1 x15_5 ((rd_T33 l0 x11_1).f0) ((rd_T33 l0 x11_1).f1) ((rd_T33 l0 x11_1).f2) = some r) ∧ Aside0 (kq ≤ k1) ∧ Aside0 (wc.heap[gb102]? = some (.cells #[.int .i64 ((rd_T33 l0 x11_1).f0), .int .u64 ((rd_T33 l0 x11_1).f1), .int .u64 ((rd_T33 l0 x11_1).f2)] 33 (0, 0))) ∧ Aside0 (Below w.heap.size w wc))
              case first =>
                have H := HC6.out
                clear HC6
                by_cases c9 : ((rd_T33 l0 x11_1).f0) < 0
                · rw [if_pos c9] at H
                  have c9b0 : decide (((rd_T33 l0 x11_1).f0) < 0) = true := decide_eq_true c9
                  clear c9
                  (first | rw [c9b0] | (simp only [i64_w, i32_w]; rw [c9b0]) | skip)
                  have H' := Aside0.mk H
                  clear H
                  have hcz10_0 : w7.cell? ⟨gb102, 0, none⟩ = some (.int .i64 0) := (blk_cell BK102.out 0).trans rfl
                  have hcz10_1 : w7.cell? ⟨gb102, 1, none⟩ = some (.int .u64 0) := (blk_cell BK102.out 1).trans rfl
                  have hcz10_2 : w7.cell? ⟨gb102, 2, none⟩ = some (.int .u64 0) := (blk_cell BK102.out 2).trans rfl
                  have hfz10_0 := blk_frozen BK102.out 0
                  have hfz10_1 := blk_frozen BK102.out 1
                  have hfz10_2 := blk_frozen BK102.out 2
                  go_wp2
                  go_meet
                  case rel => exact ⟨_, (true), (by first | rfl | (simp; done) | (simp [*]; done)), H', ⟨by have := HK1.out; first | omega | exact Nat.le_refl _⟩, ⟨by (with_reducible repeat (first | refine blk_drewN ?_ _ | refine blk_drew ?_ | refine blk_alloc ?_ _)); refine blk_put (cs := #[.int .i64 ((rd_T33 l0 x11_1).f0), .int .u64 ((rd_T33 l0 x11_1).f1), .int .u64 0]) ?_ 2 _ rfl; (with_reducible repeat (first | refine blk_drewN ?_ _ | refine blk_drew ?_ | refine blk_alloc ?_ _)); refine blk_put (cs := #[.int .i64 ((rd_T33 l0 x11_1).f0), .int .u64 0, .int .u64 0]) ?_ 1 _ rfl; (with_reducible repeat (first | refine blk_drewN ?_ _ | refine blk_drew ?_ | refine blk_alloc ?_ _)); refine blk_put (cs := #[.int .i64 0, .int .u64 0, .int .u64 0]) ?_ 0 _ rfl; (with_reducible repeat (first | refine blk_drewN ?_ _ | refine blk_drew ?_ | refine blk_alloc ?_ _)); exact BK102.out⟩, ⟨by repeat (first | (with_reducible first | exact HB.out | apply below_alloc | apply pw_below_drewN | apply below_drew1 | refine below_set ?_ GE102.out) | exact HB.out)⟩⟩
                · rw [if_neg c9] at H
                  have c9b0 : decide (((rd_T33 l0 x11_1).f0) < 0) = false := decide_eq_false c9
                  clear c9
                  (first | rw [c9b0] | (simp only [i64_w, i32_w]; rw [c9b0]) | skip)
                  have H' := Aside0.mk H
                  clear H
                  have hcz11_0 : w7.cell? ⟨gb102, 0, none⟩ = some (.int .i64 0) := (blk_cell BK102.out 0).trans rfl
                  have hcz11_1 : w7.cell? ⟨gb102, 1, none⟩ = some (.int .u64 0) := (blk_cell BK102.out 1).trans rfl
                  have hcz11_2 : w7.cell? ⟨gb102, 2, none⟩ = some (.int .u64 0) := (blk_cell BK102.out 2).trans rfl
                  have hfz11_0 := blk_frozen BK102.out 0
                  have hfz11_1 := blk_frozen BK102.out 1
                  have hfz11_2 := blk_frozen BK102.out 2
                  go_wp2
                  go_meet
                  case rel => exact ⟨_, (decide (((rd_T33 l0 x11_1).f0) > 1099511627776)), (by first | rfl | (simp; done) | (simp [*]; done)), H', ⟨by have := HK1.out; first | omega | exact Nat.le_refl _⟩, ⟨by (with_reducible repeat (first | refine blk_drewN ?_ _ | refine blk_drew ?_ | refine blk_alloc ?_ _)); refine blk_put (cs := #[.int .i64 ((rd_T33 l0 x11_1).f0), .int .u64 ((rd_T33 l0 x11_1).f1), .int .u64 0]) ?_ 2 _ rfl; (with_reducible repeat (first | refine blk_drewN ?_ _ | refine blk_drew ?_ | refine blk_alloc ?_ _)); refine blk_put (cs := #[.int .i64 ((rd_T33 l0 x11_1).f0), .int .u64 0, .int .u64 0]) ?_ 1 _ rfl; (with_reducible repeat (first | refine blk_drewN ?_ _ | refine blk_drew ?_ | refine blk_alloc ?_ _)); refine blk_put (cs := #[.int .i64 0, .int .u64 0, .int .u64 0]) ?_ 0 _ rfl; (with_reducible repeat (first | refine blk_drewN ?_ _ | refine blk_drew ?_ | refine blk_alloc ?_ _)); exact BK102.out⟩, ⟨by repeat (first | (with_reducible first | exact HB.out | apply below_alloc | apply pw_below_drewN | apply below_drew1 | refine below_set ?_ GE102.out) | exact HB.out)⟩⟩
              case rest =>
                clear HC6
                try clear c1
                try clear p1
                try clear q1
                try clear hx1
                try clear c2
                try clear c2b0
                try clear c2b1
                try clear p2
                try clear c3
                try clear c3b0
                try clear c4
                try clear c4b0
                try clear c5
                try clear c5b0
                try clear c9
                try clear c9b0
                try clear p10
                try clear q10
                try clear hx10
                try clear hcz10_0
                try clear hcz10_1
                try clear hcz10_2
                try clear hcz11_0
                try clear hcz11_1
                try clear hcz11_2
                try clear hcz8_0
                try clear hcz8_1
                try clear hcz8_2
                try clear hfz10_0
                try clear hfz10_1
                try clear hfz10_2
                try clear hfz11_0
                try clear hfz11_1
                try clear hfz11_2
                try clear hfz8_0
                try clear hfz8_1
                try clear hfz8_2
                try clear hx101_0
                try clear hx101_1
                try clear hx101_2
                try clear p101
                try clear p2
                try clear q101
                obtain ⟨kq, x15_5, rfl, HA, HJ5, BK102, HB⟩ := hcut
                cases kq with
                | zero => exact absurd HA.out (by simp [tsz_Check.j1])
                | succ kj5 =>
                  have H := HA.out
                  clear HA
                  simp only [tsz_Check.j1] at H
                  by_cases c12 : x15_5 = true
                  · subst c12
                    have H1 : (some 1) = some r := by rw [if_pos rfl] at H; exact H
                    clear H
                    have H := H1
                    clear H1
                    obtain rfl := Option.some.inj H
                    go_wp2
                    go_ret
                    exact ⟨by first | rfl | (simp [errW_none, errW_some] <;> rfl) | (simp [*, errW_none, errW_some] <;> rfl), by repeat (first | (with_reducible first | exact HB.out | apply below_alloc | apply pw_below_drewN | apply below_drew1 | refine below_set ?_ GE102.out) | exact HB.out)⟩
                  · replace c12 := Bool.eq_false_iff.mpr c12
                    subst c12
                    have H1 : (if ((rd_T33 l0 x11_1).f0) ≤ x3_1 then (some 51) else (tsz_Check.l0 kj5 ((rd_T33 l0 x11_1).f0) l0 (l0.length : Int) (wrap64 (x11_1 + 1)))) = some r := by rw [if_neg (show ¬ (false = true) by decide)] at H; exact H
                    clear H
                    have H := H1
                    clear H1
                    by_cases c13 : ((rd_T33 l0 x11_1).f0) ≤ x3_1
                    · rw [if_pos c13] at H
                      have c13b0 : decide (((rd_T33 l0 x11_1).f0) ≤ x3_1) = true := decide_eq_true c13
                      clear c13
                      obtain rfl := Option.some.inj H
                      have hcz14_0 : wc.cell? ⟨gb102, 0, none⟩ = some (.int .i64 ((rd_T33 l0 x11_1).f0)) := (blk_cell BK102.out 0).trans rfl
                      have hcz14_1 : wc.cell? ⟨gb102, 1, none⟩ = some (.int .u64 ((rd_T33 l0 x11_1).f1)) := (blk_cell BK102.out 1).trans rfl
                      have hcz14_2 : wc.cell? ⟨gb102, 2, none⟩ = some (.int .u64 ((rd_T33 l0 x11_1).f2)) := (blk_cell BK102.out 2).trans rfl
                      have hfz14_0 := blk_frozen BK102.out 0
                      have hfz14_1 := blk_frozen BK102.out 1
                      have hfz14_2 := blk_frozen BK102.out 2
                      go_wp2
                      go_ret
                      exact ⟨by first | rfl | (simp [errW_none, errW_some] <;> rfl) | (simp [*, errW_none, errW_some] <;> rfl), by repeat (first | (with_reducible first | exact HB.out | apply below_alloc | apply pw_below_drewN | apply below_drew1 | refine below_set ?_ GE102.out) | exact HB.out)⟩
                    · rw [if_neg c13] at H
                      have c13b0 : decide (((rd_T33 l0 x11_1).f0) ≤ x3_1) = false := decide_eq_false c13
                      clear c13
                      have H' := Aside0.mk H
                      clear H
                      have hcz15_0 : wc.cell? ⟨gb102, 0, none⟩ = some (.int .i64 ((rd_T33 l0 x11_1).f0)) := (blk_cell BK102.out 0).trans rfl
                      have hcz15_1 : wc.cell? ⟨gb102, 1, none⟩ = some (.int .u64 ((rd_T33 l0 x11_1).f1)) := (blk_cell BK102.out 1).trans rfl
                      have hcz15_2 : wc.cell? ⟨gb102, 2, none⟩ = some (.int .u64 ((rd_T33 l0 x11_1).f2)) := (blk_cell BK102.out 2).trans rfl
                      have hfz15_0 := blk_frozen BK102.out 0
                      have hfz15_1 := blk_frozen BK102.out 1
                      have hfz15_2 := blk_frozen BK102.out 2
                      go_wp2
                      go_roundg kj5
                      case measure => have := HK1.out; have := HJ5.out; omega
                      case rel => exact ⟨(((rd_T33 l0 x11_1).f0)), (wrap64 (x11_1 + 1)), (by first | rfl | (simp; done) | (simp [*]; done)), (by first | rfl | (simp; done) | (simp [*]; done)), H', ⟨by have := HK1.out; have := HJ5.out; omega⟩, ⟨by repeat (first | (with_reducible first | exact HB.out | apply below_alloc | apply pw_below_drewN | apply below_drew1 | refine below_set ?_ GE102.out) | exact HB.out)⟩⟩
            · rw [if_neg c5] at H
              exact absurd H (by simp)
          · rw [if_neg c4] at H
            exact absurd H (by simp)
        · rw [if_neg c3] at H
          have c3b0 : decide (x11_1 < (l0.length : Int)) = false := decide_eq_false c3
          clear c3
          obtain rfl := Option.some.inj H
          go_wp2
          go_ret
          exact ⟨by first | rfl | (simp [errW_none, errW_some] <;> rfl) | (simp [*, errW_none, errW_some] <;> rfl), by repeat (first | (with_reducible first | exact HB.out | apply below_alloc | apply pw_below_drewN | apply below_drew1) | exact HB.out)⟩
end Go.Proofs.YtmnlbedgkjnodaaDoor.QB
namespace Go.Proofs.YtmnlbedgkjnodaaDoor.TeW
open Go.RowKit Go.Proofs.YtmnlbedgkjnodaaDoorW.PrintWords Go.Proofs.YtmnlbedgkjnodaaDoorW.PrintLast Go.Proofs.YtmnlbedgkjnodaaDoorW.PrintMore Go.Proofs.YtmnlbedgkjnodaaDoor.QB Go.Proofs.YtmnlbedgkjnodaaDoor.Sl Go.Proofs.YtmnlbedgkjnodaaDoor.Bt Go.Proofs.YtmnlbedgkjnodaaDoor.Uv Go.Proofs.YtmnlbedgkjnodaaDoor.UvP Go.Proofs.YtmnlbedgkjnodaaDoor.WrW Go.Proofs.YtmnlbedgkjnodaaDoor.TzP Go.Proofs.YtmnlbedgkjnodaaDoor.TzW Go.Proofs.YtmnlbedgkjnodaaDoor.TeP Go.Proofs.YtmnlbedgkjnodaaDoor.Ld
attribute [local go_sem] max2_int min2_int max_two min_two
theorem rdT (l : List Pt) (i : Nat) : rd_T33 l (i : Int) = l.getD i zp := by
  unfold rd_T33
  rw [Int.toNat_natCast]
  rfl
theorem getD_at {l : List Pt} {i : Nat} (h : i < l.length) : l.getD i zp = l[i] := by
  rw [List.getD_eq_getElem?_getD, List.getElem?_eq_getElem h]
  rfl
theorem check_l0 (l : List Pt) (hl : l.length ≤ 1000000) : ∀ (d i k : Nat) (last : Int), i + d = l.length → 2 * d < k → tsz_Check.l0 k last l (l.length : Int) (i : Int) = some (chk last (l.drop i)) := by
  intro d
  induction d with
  | zero =>
    intro i k last hi hk
    obtain ⟨k, rfl⟩ : ∃ m, k = m + 1 := ⟨k - 1, by omega⟩
    simp only [tsz_Check.l0]
    rw [if_neg (by omega), List.drop_eq_nil_of_le (by omega)]
    rfl
  | succ d ih =>
    intro i k last hi hk
    obtain ⟨k, rfl⟩ : ∃ m, k = m + 2 := ⟨k - 2, by omega⟩
    have hlt : i < l.length := by omega
    simp only [tsz_Check.l0]
    rw [if_pos (by omega), if_pos (by omega), if_pos (by omega), rdT, getD_at hlt, List.drop_eq_getElem_cons hlt]
    unfold chk
    have hw : wrap64 ((i : Int) + 1) = ((i + 1 : Nat) : Int) := by unfold wrap64; omega
    by_cases h1 : l[i].f0 < 0
    · rw [if_pos h1, if_pos (.inl h1)]
      simp only [tsz_Check.j1]
      rfl
    · rw [if_neg h1]
      by_cases h2 : 1099511627776 < l[i].f0
      · rw [if_pos (.inr h2)]
        simp only [tsz_Check.j1]
        rw [if_pos (decide_eq_true h2)]
      · rw [if_neg (by omega)]
        simp only [tsz_Check.j1]
        rw [if_neg (by simpa using h2)]
        by_cases h3 : l[i].f0 ≤ last
        · rw [if_pos h3, if_pos h3]
        · rw [if_neg h3, if_neg h3, hw]
          exact ih (i + 1) k _ (by omega) (by omega)
theorem check_f {l : List Pt} (hl : l.length ≤ 1000000) {k : Nat} (hk : 2 * l.length < k) : tsz_Check.f k l = some (checkF l) := by
  unfold tsz_Check.f checkF
  by_cases h : 512 < l.length
  · rw [if_pos (by omega), if_pos h]
  · rw [if_neg (by omega), if_neg h]
    exact check_l0 l hl l.length 0 k (-1) (by omega) hk
theorem point_at {W : World} {A : Option Addr} {l : List Pt} (hr : Kd.C k33 W A l.length l) {k : Nat} (hk : k < l.length) :
    ∃ ad : Addr, A = some ad ∧ ∀ w', Below W.heap.size W w' → w'.cell? (ad.add (k * 3)) = some (.int .i64 (l.getD k zp).f0) ∧ w'.cell? ⟨(ad.add (k * 3)).block, (ad.add (k * 3)).off + 1, none⟩ = some (.int .u64 (l.getD k zp).f1) ∧ w'.cell? ⟨(ad.add (k * 3)).block, (ad.add (k * 3)).off + 2, none⟩ = some (.int .u64 (l.getD k zp).f2) := by
  obtain ⟨ad, ha, h0, h1, h2⟩ := at_T33 hr (k : Int) (by omega) (by omega)
  rw [rdT] at h0 h1 h2
  rw [Int.toNat_natCast] at h0 h1 h2
  exact ⟨ad, ha, fun w' hb => ⟨(hb.cell (World.block_lt_of_cell? W _ h0)).trans h0, (hb.cell (World.block_lt_of_cell? W _ h1)).trans h1, (hb.cell (World.block_lt_of_cell? W _ h2)).trans h2⟩⟩
theorem Uvarint_nil (n : Nat) (hn : n ≤ 512) (w : World) :
    Calls Tryd.prog 25 #[.slice none 0 0, .int .u64 (n : Int)] w fun e w' => ∃ v0_ : Value, e = .returned v0_ ∧ Kd.R (Kd.int .u8) 5 w' w.heap.size (fun _ => True) v0_ (uv n) ∧ Below w.heap.size w w' := by
  have h := bits_Uvarint_f (v := n) (k := 10) (l := []) (by omega) (by omega) (by omega) (by simp)
  exact bits_Uvarint.calls 10 none 0 [] (n : Int) _ w (Kd.C_nil _ _) (Nat.le_refl _) h
theorem isBits_nil : IsBits [] := fun x hx => by simp at hx
theorem pt_facts {l : List Pt} (hT : ∀ i (h : i < l.length), 0 ≤ l[i].f0 ∧ l[i].f0 ≤ 1099511627776) (hok : OkL l) {i : Nat} (hi : i < l.length) :
    ∃ t v s : Nat, l.getD i zp = ⟨(t : Int), (v : Int), (s : Int)⟩ ∧ t ≤ 1099511627776 ∧ v < 18446744073709551616 ∧ s < 18446744073709551616 := by
  have h1 := hT i hi
  have h2 := getD_ok hok i
  rw [← getD_at hi] at h1
  generalize l.getD i zp = p at h1 h2 ⊢
  obtain ⟨T, V, S⟩ := p
  obtain ⟨_, h3, h4⟩ := h2
  simp only at h1 h3 h4
  exact ⟨T.toNat, V.toNat, S.toNat, by rw [Int.toNat_of_nonneg h1.1, Int.toNat_of_nonneg h3.1, Int.toNat_of_nonneg h4.1], by omega, by omega, by omega⟩
set_option maxHeartbeats 4000000 in
set_option maxRecDepth 100000 in
theorem Encode_bad (w : World) (A : Option Addr) (c : Nat) (l : List Pt) (hC : Kd.C k33 w A l.length l) (hc : l.length ≤ c) (hl : l.length ≤ 1000000) (hk : checkF l ≠ 0) :
    Calls Tryd.prog 11 #[.slice A l.length c] w fun e w' => e = .returned (.tuple #[.slice none 0 0, .int .i64 (checkF l)]) ∧ Below w.heap.size w w' := by
  have HF := Aside0.mk (check_f hl (k := 2 * l.length + 1) (by omega))
  have HC := Aside0.mk hC
  have d0 : (checkF l != 0) = true := by rw [bne_iff_ne]; exact hk
  have d1 : (checkF l == 0) = false := by rw [beq_eq_false_iff_ne]; exact hk
  clear hC hk
  go_enter Tryd.func11, Tryd.ntmps11
  go_wp2_with (first | (go_at_call 17; go_loud ((with_reducible refine (tsz_Check.calls _ A c l _ w HC.out hc HF.out).mono ?_); rintro e w1 ⟨rfl, hb1⟩; have H1 := Aside0.mk hb1; clear hb1)))
  go_ret2
  exact ⟨rfl, H1.out⟩
set_option maxHeartbeats 8000000 in
set_option maxRecDepth 100000 in
theorem Encode_ok (w : World) (A : Option Addr) (c : Nat) (l : List Pt) (hC : Kd.C k33 w A l.length l) (hc : l.length ≤ c) (hk : checkF l = 0) (hok : OkL l) (hL : LaidW w) :
    Calls Tryd.prog 11 #[.slice A l.length c] w fun e w' => ∃ v, e = .returned (.tuple #[v, .int .i64 0]) ∧ Sat w w' (Row (Kd.int .u8) 5 v (encB l) :: []) := by
  obtain ⟨hn, hT, hR⟩ := checkF_zero hk
  have HF := Aside0.mk (check_f (show l.length ≤ 1000000 by omega) (k := 2 * l.length + 1) (by omega))
  rw [hk] at HF
  have HC := Aside0.mk hC
  have HT := Aside0.mk hT
  have HOK := Aside0.mk hok
  have HL := Aside0.mk hL
  have HS := Aside0.mk (Sat.start w)
  have HK := Aside0.mk hk
  clear hC hk hT hR hok hL
  go_enter Tryd.func11, Tryd.ntmps11
  go_upto_region 5 with (first | (go_at_call 17; go_loud ((with_reducible refine (tsz_Check.calls _ A c l _ w HC.out hc HF.out).mono ?_); rintro e w1 ⟨rfl, hb1⟩; have H1 := Aside0.mk (HS.out.step hb1); clear hb1)) | (go_at_call 21; go_loud ((with_reducible refine (NewWriter_calls w w1 _ H1.out).mono ?_); rintro e w2 ⟨g, rfl, hs⟩; have H2 := Aside0.mk hs; clear hs)))
  go_cut [6, 7, 8] (fun v6 v7 v8 wc => ∃ g6 g7 : Nat, v6 = .pointer (some ⟨g6, 0, none⟩) ∧ v7 = .pointer (some ⟨g7, 0, none⟩) ∧ v8 = .int .i64 0 ∧ Aside0 (Sat w wc (Wr g [] :: Blk g6 #[.int .i64 (-1), .int .i64 (-1)] 47 :: Blk g7 #[.int .i64 (-1), .int .i64 (-1)] 47 :: [])))
  case first =>
    have hl2 := LaidW.below HL.out H2.out.below
    have n0 := hl2.2.1
    have n1 := hl2.2.2
    have hg := World.block_lt_of_cell? w2 _ n0
    clear hl2
    go_region
    all_goals (go_wp2_with fail; go_meet)
    · refine ⟨w2.heap.size, w2.heap.size + 1, rfl, rfl, rfl, ⟨?_⟩⟩
      have h := ((H2.out.newBlk #[.int .i64 (-1), .int .i64 (-1)] 47).newBlk #[.int .i64 (-1), .int .i64 (-1)] 47).drew
      rw [alloc_size] at h
      exact (h.nth 1 rfl).nth 2 rfl
    · refine ⟨w2.heap.size + 1, w2.heap.size, rfl, rfl, rfl, ⟨?_⟩⟩
      have h := ((H2.out.newBlk #[.int .i64 (-1), .int .i64 (-1)] 47).newBlk #[.int .i64 (-1), .int .i64 (-1)] 47).drew
      rw [alloc_size] at h
      exact h.nth 2 rfl
  case rest =>
    obtain ⟨g6, g7, rfl, rfl, rfl, H3⟩ := hcut
    clear H1 H2 HS
    go_wp2
    go_loopw [8, 22] (fun v8 v22 wr => ∃ (i : Nat) (d : Int), i ≤ l.length ∧ v22 = .int .i64 i ∧ v8 = .int .i64 d ∧ Aside0 (d = (goB l i).2.1) ∧ Aside0 (Sat w wr (Wr g (goB l i).1 :: Blk g6 #[.int .i64 (wl (goB l i).2.2.1), .int .i64 (wt (goB l i).2.2.1)] 47 :: Blk g7 #[.int .i64 (wl (goB l i).2.2.2), .int .i64 (wt (goB l i).2.2.2)] 47 :: []))) (fun _ v22 _ => l.length - (intOf v22).toNat)
    case atStart => exact ⟨0, 0, by omega, rfl, rfl, ⟨rfl⟩, H3⟩
    case round =>
      obtain ⟨i, d, hi, rfl, rfl, HD, HR⟩ := hrel
      clear H3
      by_cases hlt : i < l.length
      · have d1 : decide ((i : Int) < (l.length : Int)) = true := decide_eq_true (by omega)
        have d2 : decide (i < l.length) = true := decide_eq_true hlt
        obtain ⟨ad, rfl, hX⟩ := point_at HC.out hlt
        obtain ⟨t, v, s, hp, ht, hv, hs⟩ := pt_facts HT.out HOK.out hlt
        rw [hp] at hX
        obtain ⟨c0, c1, c2⟩ := hX _ HR.out.below
        simp only at c0 c1 c2
        have HP := Aside0.mk hp
        have hi0 : (0 : Int) ≤ (i : Int) := by omega
        have hi1 : (i : Int) < (l.length : Int) := by omega
        clear hX hp
        have HNB := Aside0.mk (HR.out.newBlk #[.int .i64 t, .int .u64 v, .int .u64 s] 33)
        go_upto_region 9 with (fail)
        generalize wr.alloc (.cells #[.int .i64 t, .int .u64 v, .int .u64 s] 33) = w3 at HNB ⊢
        generalize wr.heap.size = g10 at HNB ⊢
        clear c0 c1 c2 d1 d2 hi0 hi1 HR
        have H3 := Aside0.mk (HNB.out.nth 1 rfl)
        have k0 := HNB.out.cell 0 (v := .int .i64 t) rfl
        have k1 := HNB.out.cell 1 (v := .int .u64 v) rfl
        have k2 := HNB.out.cell 2 (v := .int .u64 s) rfl
        have e1 : IntKind.u64.wrap (t : Int) = (t : Int) := by rw [IntKind.wrap_u64]; omega
        rcases Nat.eq_zero_or_pos i with h0 | h0
        · subst h0
          have H3 : Aside0 (Sat w w3 (Wr g [] :: Blk g10 #[.int .i64 t, .int .u64 v, .int .u64 s] 33 :: Blk g6 #[.int .i64 (-1), .int .i64 (-1)] 47 :: Blk g7 #[.int .i64 (-1), .int .i64 (-1)] 47 :: [])) := H3
          clear HNB
          go_upto_region 11 with (first | (go_at_call 22; go_loud ((with_reducible refine (Put_at w w3 _ g [] (t : Int) 64 t 64 rfl rfl (by omega) (by simp) isBits_nil H3.out).mono ?_); rintro e w4 ⟨rfl, hs⟩; have H4 : Aside0 (Sat w w4 (Wr g (bitsOf t 64) :: Blk g10 #[.int .i64 t, .int .u64 v, .int .u64 s] 33 :: Blk g6 #[.int .i64 (-1), .int .i64 (-1)] 47 :: Blk g7 #[.int .i64 (-1), .int .i64 (-1)] 47 :: [])) := ⟨hs⟩; clear hs)))
          clear k0 k1 k2
          have k1 := (H4.out.nth 1 rfl).cell 1 (v := .int .u64 v) rfl
          go_upto_region 12 with (first | (go_at_call 22; go_loud ((with_reducible refine (Put_at w w4 _ g (bitsOf t 64) (v : Int) 64 v 64 rfl rfl hv (by rw [bitsOf_length]; omega) (bitsOf_isBits _ _) H4.out).mono ?_); rintro e w5 ⟨rfl, hs⟩; have H5 : Aside0 (Sat w w5 (Wr g (bitsOf t 64 ++ bitsOf v 64) :: Blk g10 #[.int .i64 t, .int .u64 v, .int .u64 s] 33 :: Blk g6 #[.int .i64 (-1), .int .i64 (-1)] 47 :: Blk g7 #[.int .i64 (-1), .int .i64 (-1)] 47 :: [])) := ⟨hs⟩; clear hs)))
          clear k1
          have k2 := (H5.out.nth 1 rfl).cell 2 (v := .int .u64 s) rfl
          go_wp2_with (first | (go_at_call 22; go_loud ((with_reducible refine (Put_at w w5 _ g (bitsOf t 64 ++ bitsOf v 64) (s : Int) 64 s 64 rfl rfl hs (by rw [List.length_append, bitsOf_length, bitsOf_length]; omega) ((bitsOf_isBits _ _).append (bitsOf_isBits _ _)) H5.out).mono ?_); rintro e w6 ⟨rfl, hs6⟩; have H6 : Aside0 (Sat w w6 (Wr g (bitsOf t 64 ++ bitsOf v 64 ++ bitsOf s 64) :: Blk g10 #[.int .i64 t, .int .u64 v, .int .u64 s] 33 :: Blk g6 #[.int .i64 (-1), .int .i64 (-1)] 47 :: Blk g7 #[.int .i64 (-1), .int .i64 (-1)] 47 :: [])) := ⟨hs6⟩; clear hs6)))
          go_roundw
          case measure => simp [intOf]; omega
          case rel =>
            have hg : goB l 1 = (bitsOf t 64 ++ bitsOf v 64 ++ bitsOf s 64, st0) := by rw [goB_one, HP.out]; rfl
            refine ⟨1, d, by omega, rfl, rfl, ⟨by rw [HD.out, hg]; rfl⟩, ⟨?_⟩⟩
            rw [hg]
            exact (H6.out.nth 1 rfl).tail
        · obtain ⟨j, rfl⟩ : ∃ j, i = j + 1 := ⟨i - 1, by omega⟩
          have hgs := goB_succ l j
          rw [HP.out] at hgs
          have hok := goB_ok HOK.out (j + 1)
          have hdi := goB_dist HK.out (j + 1) hi
          have hln := goB_length l (j + 1)
          have hbb := goB_isBits l (j + 1)
          have hjl : j < l.length := by omega
          obtain ⟨tq, vq, sq, hq, htq, hvq, hsq⟩ := pt_facts HT.out HOK.out hjl
          obtain ⟨ad', hae, hX⟩ := point_at HC.out hjl
          obtain rfl : ad = ad' := by simpa using hae
          rw [hq] at hX hgs
          obtain ⟨c0, c1, c2⟩ := hX _ HNB.out.below
          simp only at c0 c1 c2
          clear hae hX hq
          obtain ⟨⟨bs, d', vw, sw⟩, hr⟩ : ∃ r, goB l (j + 1) = r := ⟨_, rfl⟩
          have hdd := HD.out
          rw [hr] at hgs hok hdi hln hbb H3 hdd
          obtain rfl : d = d' := hdd
          clear HD
          simp only at hgs hok hdi hln hbb H3
          obtain ⟨hd0, hd1⟩ := hdi
          obtain ⟨hvo, hso⟩ := hok
          have HVO := Aside0.mk hvo
          have HSO := Aside0.mk hso
          have HBB := Aside0.mk hbb
          have HGS := Aside0.mk hgs
          have hbl : bs.length ≤ 1000000 := by omega
          have hj0 : (0 : Int) ≤ (j : Int) := by omega
          have hj1 : (j : Int) < (l.length : Int) := by omega
          clear hgs hvo hso hbb hln HNB h0 hr
          have hxv : bits .xor .u64 (v : Int) (vq : Int) = ((v ^^^ vq : Nat) : Int) := bits_xor_u64_nat v vq hv hvq
          have hxs : bits .xor .u64 (s : Int) (sq : Int) = ((s ^^^ sq : Nat) : Int) := bits_xor_u64_nat s sq hs hsq
          have hyv : v ^^^ vq < 18446744073709551616 := Nat.xor_lt_two_pow (n := 64) hv hvq
          have hys : s ^^^ sq < 18446744073709551616 := Nat.xor_lt_two_pow (n := 64) hs hsq
          have HNB := Aside0.mk (H3.out.newBlk #[.int .i64 tq, .int .u64 vq, .int .u64 sq] 33)
          go_upto_region 14 with (fail)
          generalize w3.alloc (.cells #[.int .i64 tq, .int .u64 vq, .int .u64 sq] 33) = w4 at HNB ⊢
          generalize w3.heap.size = g11 at HNB ⊢
          clear c0 c1 c2 k0 k1 k2
          have H4 : Aside0 (Sat w w4 (Wr g bs :: Blk g11 #[.int .i64 tq, .int .u64 vq, .int .u64 sq] 33 :: Blk g10 #[.int .i64 t, .int .u64 v, .int .u64 s] 33 :: Blk g6 #[.int .i64 (wl vw), .int .i64 (wt vw)] 47 :: Blk g7 #[.int .i64 (wl sw), .int .i64 (wt sw)] 47 :: [])) := ⟨HNB.out.nth 1 rfl⟩
          have k0 := (H4.out.nth 2 rfl).cell 0 (v := .int .i64 t) rfl
          have k1 := (H4.out.nth 1 rfl).cell 0 (v := .int .i64 tq) rfl
          clear HNB H3
          go_upto_region 15 with (first | (go_at_call 23; go_loud ((with_reducible refine (putTime_calls w w4 _ g bs ((t : Int) - (tq : Int) - d) (by omega) (by omega) (by omega) HBB.out H4.out).mono ?_); rintro e w5 ⟨rfl, hs⟩; have H5 : Aside0 (Sat w w5 (Wr g (bs ++ timeB ((t : Int) - (tq : Int) - d)) :: Blk g11 #[.int .i64 tq, .int .u64 vq, .int .u64 sq] 33 :: Blk g10 #[.int .i64 t, .int .u64 v, .int .u64 s] 33 :: Blk g6 #[.int .i64 (wl vw), .int .i64 (wt vw)] 47 :: Blk g7 #[.int .i64 (wl sw), .int .i64 (wt sw)] 47 :: [])) := ⟨hs⟩; clear hs)))
          clear k0 k1 H4
          have k0 := (H5.out.nth 2 rfl).cell 0 (v := .int .i64 t) rfl
          have k1 := (H5.out.nth 1 rfl).cell 0 (v := .int .i64 tq) rfl
          have k2 := (H5.out.nth 2 rfl).cell 1 (v := .int .u64 v) rfl
          have k3 := (H5.out.nth 1 rfl).cell 1 (v := .int .u64 vq) rfl
          have k4 := (H5.out.nth 3 rfl).cell 0 (v := .int .i64 (wl vw)) rfl
          have k5 := (H5.out.nth 3 rfl).cell 1 (v := .int .i64 (wt vw)) rfl
          obtain ⟨b2, hb2⟩ : ∃ b2, bs ++ timeB ((t : Int) - (tq : Int) - d) = b2 := ⟨_, rfl⟩
          have hl2 := (timeB_length ((t : Int) - (tq : Int) - d)).2
          have hq2 : b2.length ≤ 1000100 := by rw [← hb2, List.length_append]; omega
          have hi2 : IsBits b2 := by rw [← hb2]; exact HBB.out.append (timeB_isBits _)
          rw [hb2] at H5
          have HE2 := Aside0.mk hb2
          clear hb2 hl2
          go_upto_region 17 with (first | (go_at_call 24; go_loud ((with_reducible refine (putValue_calls w w5 _ g b2 (v ^^^ vq) vw hyv HVO.out (by omega) hi2 HL.out H5.out).mono ?_); rintro e w6 ⟨rfl, hs⟩; have H6 : Aside0 (Sat w w6 (Wr g (b2 ++ (valueB (v ^^^ vq) vw).1) :: Blk g11 #[.int .i64 tq, .int .u64 vq, .int .u64 sq] 33 :: Blk g10 #[.int .i64 t, .int .u64 v, .int .u64 s] 33 :: Blk g6 #[.int .i64 (wl vw), .int .i64 (wt vw)] 47 :: Blk g7 #[.int .i64 (wl sw), .int .i64 (wt sw)] 47 :: [])) := ⟨hs⟩; clear hs)) | ((with_reducible refine gate_store (p := 6) rfl ?_); go_loud (refine wpList_store_row rfl 47 (.tmp 6) (.tmp 68) rfl g6 #[.int .i64 (wl (valueB (v ^^^ vq) vw).2), .int .i64 (wt (valueB (v ^^^ vq) vw).2)] rfl rfl 47 _ (H6.out.nth 3 rfl).blk (by kernel_rfl) rfl (by simp [Value.oneCell']) ?_; have HY := Aside0.mk (Sat.setRow (H6.out.nth 3 rfl) #[.int .i64 (wl (valueB (v ^^^ vq) vw).2), .int .i64 (wt (valueB (v ^^^ vq) vw).2)]))))
          generalize w6.setRow g6 #[.int .i64 (wl (valueB (v ^^^ vq) vw).2), .int .i64 (wt (valueB (v ^^^ vq) vw).2)] = w7 at HY ⊢
          obtain ⟨b3, hb3⟩ : ∃ b3, b2 ++ (valueB (v ^^^ vq) vw).1 = b3 := ⟨_, rfl⟩
          have hl3 := (valueB_length (v ^^^ vq) vw).2
          have hq3 : b3.length ≤ 1000200 := by rw [← hb3, List.length_append]; omega
          have hi3 : IsBits b3 := by rw [← hb3]; exact hi2.append (valueB_isBits _ _)
          have H7 : Aside0 (Sat w w7 (Wr g b3 :: Blk g6 #[.int .i64 (wl (valueB (v ^^^ vq) vw).2), .int .i64 (wt (valueB (v ^^^ vq) vw).2)] 47 :: Blk g11 #[.int .i64 tq, .int .u64 vq, .int .u64 sq] 33 :: Blk g10 #[.int .i64 t, .int .u64 v, .int .u64 s] 33 :: Blk g7 #[.int .i64 (wl sw), .int .i64 (wt sw)] 47 :: [])) := ⟨by rw [← hb3]; exact HY.out.nth 1 rfl⟩
          have HE3 := Aside0.mk hb3
          clear hb3 hl3 k0 k1 k2 k3 k4 k5 H5 H6 HY
          have k2 := (H7.out.nth 3 rfl).cell 2 (v := .int .u64 s) rfl
          have k3 := (H7.out.nth 2 rfl).cell 2 (v := .int .u64 sq) rfl
          have k4 := (H7.out.nth 4 rfl).cell 0 (v := .int .i64 (wl sw)) rfl
          have k5 := (H7.out.nth 4 rfl).cell 1 (v := .int .i64 (wt sw)) rfl
          go_wp2_with (first | (go_at_call 24; go_loud ((with_reducible refine (putValue_calls w w7 _ g b3 (s ^^^ sq) sw hys HSO.out (by omega) hi3 HL.out H7.out).mono ?_); rintro e w8 ⟨rfl, hs⟩; have H8 : Aside0 (Sat w w8 (Wr g (b3 ++ (valueB (s ^^^ sq) sw).1) :: Blk g6 #[.int .i64 (wl (valueB (v ^^^ vq) vw).2), .int .i64 (wt (valueB (v ^^^ vq) vw).2)] 47 :: Blk g11 #[.int .i64 tq, .int .u64 vq, .int .u64 sq] 33 :: Blk g10 #[.int .i64 t, .int .u64 v, .int .u64 s] 33 :: Blk g7 #[.int .i64 (wl sw), .int .i64 (wt sw)] 47 :: [])) := ⟨hs⟩; clear hs)) | ((with_reducible refine gate_store (p := 7) rfl ?_); go_loud (refine wpList_store_row rfl 47 (.tmp 7) (.tmp 76) rfl g7 #[.int .i64 (wl (valueB (s ^^^ sq) sw).2), .int .i64 (wt (valueB (s ^^^ sq) sw).2)] rfl rfl 47 _ (H8.out.nth 4 rfl).blk (by kernel_rfl) rfl (by simp [Value.oneCell']) ?_; have HY := Aside0.mk (Sat.setRow (H8.out.nth 4 rfl) #[.int .i64 (wl (valueB (s ^^^ sq) sw).2), .int .i64 (wt (valueB (s ^^^ sq) sw).2)]))))
          go_roundw
          case measure => simp [intOf]; omega
          case rel =>
            have hg := HGS.out
            refine ⟨j + 2, _, by omega, by go_num, rfl, ⟨by rw [hg]; rfl⟩, ⟨?_⟩⟩
            rw [hg]
            have hy : Sat w _ (Wr g (b3 ++ (valueB (s ^^^ sq) sw).1) :: Blk g6 #[.int .i64 (wl (valueB (v ^^^ vq) vw).2), .int .i64 (wt (valueB (v ^^^ vq) vw).2)] 47 :: Blk g7 #[.int .i64 (wl (valueB (s ^^^ sq) sw).2), .int .i64 (wt (valueB (s ^^^ sq) sw).2)] 47 :: []) := ((((HY.out.nth 2 rfl).nth 2 rfl).nth 3 rfl).tail.nth 3 rfl).tail
            rw [← HE3.out, ← HE2.out, List.append_assoc, List.append_assoc, ← List.append_assoc (timeB _)] at hy
            exact hy
      · have d1 : decide ((i : Int) < (l.length : Int)) = false := decide_eq_false (by omega)
        have d2 : decide (i < l.length) = false := decide_eq_false hlt
        obtain rfl : i = l.length := by omega
        have hln := goB_length l l.length
        have hbb := goB_isBits l l.length
        have hlu := uv_length10 (v := l.length) (by omega)
        have hpl := pk_length (goB l l.length).1
        have HR := Aside0.mk (show Sat w _ (Wr g (bitsT l) :: _) from HR.out)
        have hbl : (bitsT l).length ≤ 1000000 := by unfold bitsT; omega
        have hwl : IntKind.u64.wrap (l.length : Int) = (l.length : Int) := by rw [IntKind.wrap_u64]; omega
        have hpb : (pk (bitsT l)).length ≤ 1000000 := by unfold bitsT; omega
        have hul : (uv l.length ++ pk (bitsT l)).length ≤ 2000000 := by rw [List.length_append]; omega
        clear hln hbb hpl HD
        go_wp2_with (first | (go_at_call 25; go_loud ((with_reducible refine (Uvarint_nil l.length (by omega) _).mono ?_); rintro e wu ⟨vu, rfl, hru, hbu⟩; obtain ⟨Au, cu, hvu⟩ := Kd.R_slice hru; subst hvu; have HSU := Aside0.mk ((HR.out.made hbu hru).nth 1 rfl); clear hru hbu)) | (go_at_call 26; go_loud ((with_reducible refine (Bytes_calls w wu _ g (bitsT l) (by omega) HSU.out).mono ?_); rintro e wb ⟨vb, rfl, hsb⟩; obtain ⟨Ab, cb, hvb, hcb, hCb⟩ := hsb.rowSlice; subst hvb; have HSB : Aside0 (Sat w wb (Row (Kd.int .u8) 5 (.slice Au (uv l.length).length cu) (uv l.length) :: Row (Kd.int .u8) 5 (.slice Ab (pk (bitsT l)).length cb) (pk (bitsT l)) :: Wr g (bitsT l) :: _)) := ⟨hsb.nth 2 rfl⟩; have HCB := Aside0.mk hCb; clear hCb hsb)) | (at_builtin; refine Sat.appendInts rfl _ _ 23 5 .u8 1 rfl Tryd.underlying23 info8 (by omega) _ (uv l.length) (pk (bitsT l)) Ab _ cb rfl rfl HSB.out HCB.out (by rw [List.length_append] at hul; omega) ?_; intro v1 w9 hs hsz; have HS9 := Aside0.mk hs; clear hs hsz))
        go_ret2
        refine ⟨_, rfl, HS9.out.below, ?_⟩
        obtain ⟨G, h1, h2, _⟩ := HS9.out.seps
        exact ⟨G, h1, h2, trivial⟩
end Go.Proofs.YtmnlbedgkjnodaaDoor.TeW
namespace Go.Proofs.YtmnlbedgkjnodaaDoor.QB
open Go.RowKit Go.Proofs.YtmnlbedgkjnodaaDoorW.PrintWords Go.Proofs.YtmnlbedgkjnodaaDoorW.PrintLast Go.Proofs.YtmnlbedgkjnodaaDoorW.PrintMore Go.Proofs.YtmnlbedgkjnodaaDoor.TeP
def tsz_Encode.f (l0 : List (S33)) : Option (List Int × Int) := if l0.length ≤ 1000000 ∧ (l0.all fun p => decide (okPt p)) = true then some (encT l0) else none
theorem tsz_Encode.f_eq {l : List (S33)} (hl : l.length ≤ 1000000) (hok : OkL l) : tsz_Encode.f l = some (encT l) := by
  unfold tsz_Encode.f
  rw [if_pos ⟨hl, List.all_eq_true.2 fun p hp => decide_eq_true (hok p hp)⟩]
theorem tsz_Encode.calls (A0 : Option Addr) (c0 : Nat) (l0 : List (S33)) (r1 : List Int) (r2 : Int) (w : World) (hr0 : Kd.C k33 w A0 l0.length l0) (hc0 : l0.length ≤ c0) (h : tsz_Encode.f l0 = some (r1, r2)) (hL : Ld.LaidW w) :
    Calls Tryd.prog 11 #[.slice A0 l0.length c0] w fun e w' => ∃ v0_ : Value, e = .returned (.tuple #[v0_, .int .i64 r2]) ∧ Kd.R (Kd.int .u8) 5 w' w.heap.size (fun _ => True) v0_ r1 ∧ Below w.heap.size w w' := by
  unfold tsz_Encode.f at h
  split at h
  · rename_i hc
    obtain ⟨hl, hall⟩ := hc
    have hok : OkL l0 := fun p hp => of_decide_eq_true (List.all_eq_true.1 hall p hp)
    have h := Option.some.inj h
    unfold encT at h
    by_cases hk : checkF l0 = 0
    · rw [if_pos hk] at h
      cases h
      refine (TeW.Encode_ok w A0 c0 l0 hr0 hc0 hk hok hL).mono ?_
      rintro e w' ⟨v, rfl, hs⟩
      obtain ⟨G, h1, h2⟩ := hs.get
      exact ⟨v, rfl, Kd.R_mono h1 (fun _ _ => trivial), hs.below⟩
    · rw [if_neg hk] at h
      cases h
      refine (TeW.Encode_bad w A0 c0 l0 hr0 hc0 hl hk).mono ?_
      rintro e w' ⟨rfl, hb⟩
      exact ⟨_, rfl, Kd.R_nil _ _ _ _ _, hb⟩
  · cases h
end Go.Proofs.YtmnlbedgkjnodaaDoor.QB
