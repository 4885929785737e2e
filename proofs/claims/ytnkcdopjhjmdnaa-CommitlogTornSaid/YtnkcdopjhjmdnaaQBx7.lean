/- What functions of the translation come to, each as a Lean function, and a proof that the call comes to just that; or a law's row, out of its plain law. Written by mp.py, a program of this session, which runs the printer of the kit with stand-in bodies for some library functions. -/
import Derived.Test.YtnkcdopjhjmdnaaQBx0
import Derived.Test.YtnkcdopjhjmdnaaQBx5
import Derived.Test.YtnkcdopjhjmdnaaQBx6
namespace Go.Proofs.Ytnkcdopjhjmdnaa.QB
open Go.RowKit Go.Proofs.YtnkcdopjhjmdnaaW.PrintWords Go.Proofs.YtnkcdopjhjmdnaaW.PrintLast Go.Proofs.YtnkcdopjhjmdnaaW.PrintMore
attribute [local go_sem] max2_int min2_int max_two min_two max_three min_three max_four min_four   -- for this text's walks alone
set_option linter.unusedVariables false
set_option linter.unusedSimpArgs false

/-! ### thermographref09_Encode: function 10 -/
mutual
def thermographref09_Encode.j0 : Nat → Bool → Int → ByteArray → Int → Int → Int → Option (List Int × Int)
  | 0, _, _, _, _, _, _ => none
  | k + 1, x26, x161000, x161001, x161002, x161003, x161004 => if x26 = true then (some (([] : List Int), 1)) else (if (x161001.size : Int) < 1 then (thermographref09_Encode.j1 k true x161000 x161001 x161002 x161003 x161004) else (thermographref09_Encode.j1 k (decide ((x161001.size : Int) > 16)) x161000 x161001 x161002 x161003 x161004))
def thermographref09_Encode.j1 : Nat → Bool → Int → ByteArray → Int → Int → Int → Option (List Int × Int)
  | 0, _, _, _, _, _, _ => none
  | k + 1, x36, x161000, x161001, x161002, x161003, x161004 => if x36 = true then (some (([] : List Int), 80)) else ((thermographref03_Uvarint.f k ([] : List Int) (IntKind.u64.wrap (x161000))).bind fun t161 => ((thermographref08_Text.f k t161 x161001).bind fun t164 => ((thermographref03_Uvarint.f k t164 (IntKind.u64.wrap (x161002))).bind fun t167 => ((thermographref09_Wide.f k t167 x161003).bind fun t170 => ((thermographref09_Wide.f k t170 x161004).bind fun t173 => ((thermographref04_Adler.f k t173).bind fun t176 => ((thermographref03_Uvarint.f k ([] : List Int) (IntKind.u64.wrap ((t173.length : Int)))).bind fun t177 => ((some (([(t176 / 16777216) % 256, (t176 / 65536) % 256, (t176 / 256) % 256, (t176) % 256] : List Int) : List Int)).bind fun y180 => (if t177.length + y180.length < 140737488355328 then ((some (t177 ++ y180 : List Int)).bind fun y183 => (if y183.length + t173.length < 140737488355328 then (some ((y183 ++ t173), 0)) else (none))) else (none))))))))))
end
def thermographref09_Encode.f (k : Nat) (a0_0 : Int) (a0_1 : ByteArray) (a0_2 : Int) (a0_3 : Int) (a0_4 : Int) : Option (List Int × Int) := if a0_0 < 0 then (thermographref09_Encode.j0 k true a0_0 a0_1 a0_2 a0_3 a0_4) else (if a0_0 ≥ 4 then (thermographref09_Encode.j0 k true a0_0 a0_1 a0_2 a0_3 a0_4) else (if a0_2 < 0 then (thermographref09_Encode.j0 k true a0_0 a0_1 a0_2 a0_3 a0_4) else (thermographref09_Encode.j0 k (decide (a0_2 > 1099511627776)) a0_0 a0_1 a0_2 a0_3 a0_4)))
theorem thermographref09_Encode.mono_l : ∀ k, (∀ y0 y1 y2 y3 y4 y5, LeO (thermographref09_Encode.j0 k y0 y1 y2 y3 y4 y5) (thermographref09_Encode.j0 (k + 1) y0 y1 y2 y3 y4 y5)) ∧ (∀ y0 y1 y2 y3 y4 y5, LeO (thermographref09_Encode.j1 k y0 y1 y2 y3 y4 y5) (thermographref09_Encode.j1 (k + 1) y0 y1 y2 y3 y4 y5))
  | 0 => ⟨fun _ _ _ _ _ _ r h => by simp [thermographref09_Encode.j0] at h, fun _ _ _ _ _ _ r h => by simp [thermographref09_Encode.j1] at h⟩
  | k + 1 => by
    obtain ⟨ih0, ih1⟩ := thermographref09_Encode.mono_l k
    refine ⟨?_, ?_⟩
    · intro y0 y1 y2 y3 y4 y5
      unfold thermographref09_Encode.j0
      repeat' first
      | (with_reducible exact ih0 _ _ _ _ _ _)
      | (with_reducible exact ih1 _ _ _ _ _ _)
      | (with_reducible exact thermographref03_Uvarint.mono _ _ _)
      | (with_reducible exact thermographref04_Adler.mono _ _)
      | (with_reducible exact thermographref08_Text.mono _ _ _)
      | (with_reducible exact thermographref09_Wide.mono _ _ _)
      | (with_reducible exact LeO.refl _)
      | (with_reducible exact LeO.none _)
      | (with_reducible refine LeO.ite ?_ ?_)
      | (with_reducible refine LeO.bind ?_ (fun _ => ?_))
      | exact ih0 _ _ _ _ _ _
      | exact ih1 _ _ _ _ _ _
      | exact thermographref03_Uvarint.mono _ _ _
      | exact thermographref04_Adler.mono _ _
      | exact thermographref08_Text.mono _ _ _
      | exact thermographref09_Wide.mono _ _ _
      | exact LeO.none _
      | refine LeO.ite ?_ ?_
      | refine LeO.bind ?_ (fun _ => ?_)
    · intro y0 y1 y2 y3 y4 y5
      unfold thermographref09_Encode.j1
      repeat' first
      | (with_reducible exact ih0 _ _ _ _ _ _)
      | (with_reducible exact ih1 _ _ _ _ _ _)
      | (with_reducible exact thermographref03_Uvarint.mono _ _ _)
      | (with_reducible exact thermographref04_Adler.mono _ _)
      | (with_reducible exact thermographref08_Text.mono _ _ _)
      | (with_reducible exact thermographref09_Wide.mono _ _ _)
      | (with_reducible exact LeO.refl _)
      | (with_reducible exact LeO.none _)
      | (with_reducible refine LeO.ite ?_ ?_)
      | (with_reducible refine LeO.bind ?_ (fun _ => ?_))
      | exact ih0 _ _ _ _ _ _
      | exact ih1 _ _ _ _ _ _
      | exact thermographref03_Uvarint.mono _ _ _
      | exact thermographref04_Adler.mono _ _
      | exact thermographref08_Text.mono _ _ _
      | exact thermographref09_Wide.mono _ _ _
      | exact LeO.none _
      | refine LeO.ite ?_ ?_
      | refine LeO.bind ?_ (fun _ => ?_)
theorem thermographref09_Encode.mono : ∀ a0 a1 a2 a3 a4 k, LeO (thermographref09_Encode.f k a0 a1 a2 a3 a4) (thermographref09_Encode.f (k + 1) a0 a1 a2 a3 a4) := by
  intro a0 a1 a2 a3 a4 k
  obtain ⟨ih0, ih1⟩ := thermographref09_Encode.mono_l k
  unfold thermographref09_Encode.f
  repeat' first
      | (with_reducible exact ih0 _ _ _ _ _ _)
      | (with_reducible exact ih1 _ _ _ _ _ _)
      | (with_reducible exact thermographref03_Uvarint.mono _ _ _)
      | (with_reducible exact thermographref04_Adler.mono _ _)
      | (with_reducible exact thermographref08_Text.mono _ _ _)
      | (with_reducible exact thermographref09_Wide.mono _ _ _)
      | (with_reducible exact LeO.refl _)
      | (with_reducible exact LeO.none _)
      | (with_reducible refine LeO.ite ?_ ?_)
      | (with_reducible refine LeO.bind ?_ (fun _ => ?_))
      | exact ih0 _ _ _ _ _ _
      | exact ih1 _ _ _ _ _ _
      | exact thermographref03_Uvarint.mono _ _ _
      | exact thermographref04_Adler.mono _ _
      | exact thermographref08_Text.mono _ _ _
      | exact thermographref09_Wide.mono _ _ _
      | exact LeO.none _
      | refine LeO.ite ?_ ?_
      | refine LeO.bind ?_ (fun _ => ?_)
set_option maxHeartbeats 8000000 in
set_option maxRecDepth 100000 in
theorem thermographref09_Encode.calls (k : Nat) (a0_0 : Int) (a0_1 : ByteArray) (a0_2 : Int) (a0_3 : Int) (a0_4 : Int) (r1 : List Int) (r2 : Int) (w : World) (h : thermographref09_Encode.f k a0_0 a0_1 a0_2 a0_3 a0_4 = some (r1, r2)) :
    Calls Try.prog 10 #[.agg #[.int .i64 a0_0, .string a0_1, .int .i64 a0_2, .int .u64 a0_3, .int .u64 a0_4]] w fun e w' => ∃ v0_ : Value, e = .returned (.tuple #[v0_, .int .i64 r2]) ∧ Kd.R (Kd.int .u8) 5 w' w.heap.size (fun _ => True) v0_ r1 ∧ Below w.heap.size w w' := by
  have hu32 := Try.underlying32
  have HB := Aside0.mk (Below.refl w.heap.size w)
  have H : (if a0_0 < 0 then (thermographref09_Encode.j0 k true a0_0 a0_1 a0_2 a0_3 a0_4) else (if a0_0 ≥ 4 then (thermographref09_Encode.j0 k true a0_0 a0_1 a0_2 a0_3 a0_4) else (if a0_2 < 0 then (thermographref09_Encode.j0 k true a0_0 a0_1 a0_2 a0_3 a0_4) else (thermographref09_Encode.j0 k (decide (a0_2 > 1099511627776)) a0_0 a0_1 a0_2 a0_3 a0_4)))) = some (r1, r2) := h
  clear h
  have HC2 := Aside0.mk H
  clear H
  go_enter Try.func10, Try.ntmps10
  go_upto_region 1 with (first | ((with_reducible refine gate_dst (N := 1) rfl ?_); (try (refine gate_guard (by rfl) ?_; dsimp only)); refine box_event ?hg (N := 1) ?hd (cs := #[.int .i64 a0_0, .string a0_1, .int .i64 a0_2, .int .u64 a0_3, .int .u64 a0_4]) (t := 32) ?hr ?_; (case hd => rfl); (case hg => rfl); (case hr => first | (go_simp; done) | (go_simp; rfl)); intro gb160 hg w3 hbox hb; have n0_ := Aside0.mk (below_step (by repeat (first | (with_reducible first | exact HB.out | apply below_alloc | apply pw_below_drewN | apply below_drew1) | exact HB.out)) hb); have n1_ := Aside0.mk (hbox); have n2_ := Aside0.mk ((by rw [hg]; exact (below_size (by repeat (first | (with_reducible first | exact HB.out | apply below_alloc | apply pw_below_drewN | apply below_drew1) | exact HB.out))) : w.heap.size ≤ gb160)); have n3_ := Aside0.mk ((by rw [hg]; exact (below_size (by repeat (first | (with_reducible first | exact HB.out | apply below_alloc | apply pw_below_drewN | apply below_drew1) | exact HB.out))) : w.heap.size ≤ gb160)); clear HB; have HB := n0_; have BK160 := n1_; have GW160 := n2_; have GE160 := n3_; clear n0_ n1_ n2_ n3_; clear hb hbox hg))
  (try simp only [Act.put, List.setIfInBounds_toArray, List.set_cons_zero, List.set_cons_succ])
  go_cut [26] (fun v26 wc => ∃ (kq : Nat) (x26_1 : Bool), v26 = .bool x26_1 ∧ Aside0 (thermographref09_Encode.j0 kq x26_1 a0_0 a0_1 a0_2 a0_3 a0_4 = some (r1, r2)) ∧ Aside0 (kq ≤ k) ∧ Aside0 (wc.heap[gb160]? = some (.cells #[.int .i64 a0_0, .string a0_1, .int .i64 a0_2, .int .u64 a0_3, .int .u64 a0_4] 32 (0, 0))) ∧ Aside0 (Below w.heap.size w wc))
  case first =>
    have H := HC2.out
    clear HC2
    by_cases c4 : a0_0 < 0
    · rw [if_pos c4] at H
      have c4b0 : decide (a0_0 < 0) = true := decide_eq_true c4
      clear c4
      (first | rw [c4b0] | (simp only [i64_w, i32_w]; rw [c4b0]) | skip)
      have H' := Aside0.mk H
      clear H
      have hcz5_0 : w3.cell? ⟨gb160, 0, none⟩ = some (.int .i64 a0_0) := (blk_cell BK160.out 0).trans rfl
      have hcz5_1 : w3.cell? ⟨gb160, 1, none⟩ = some (.string a0_1) := (blk_cell BK160.out 1).trans rfl
      have hcz5_2 : w3.cell? ⟨gb160, 2, none⟩ = some (.int .i64 a0_2) := (blk_cell BK160.out 2).trans rfl
      have hcz5_3 : w3.cell? ⟨gb160, 3, none⟩ = some (.int .u64 a0_3) := (blk_cell BK160.out 3).trans rfl
      have hcz5_4 : w3.cell? ⟨gb160, 4, none⟩ = some (.int .u64 a0_4) := (blk_cell BK160.out 4).trans rfl
      have hfz5_0 := blk_frozen BK160.out 0
      have hfz5_1 := blk_frozen BK160.out 1
      have hfz5_2 := blk_frozen BK160.out 2
      have hfz5_3 := blk_frozen BK160.out 3
      have hfz5_4 := blk_frozen BK160.out 4
      go_wp2
      go_meet
      case rel => exact ⟨_, (true), (by first | rfl | (simp; done) | (simp [*]; done)), H', ⟨by first | omega | exact Nat.le_refl _⟩, ⟨by (with_reducible repeat (first | refine blk_drewN ?_ _ | refine blk_drew ?_ | refine blk_alloc ?_ _)); exact BK160.out⟩, ⟨by repeat (first | (with_reducible first | exact HB.out | apply below_alloc | apply pw_below_drewN | apply below_drew1 | refine below_set ?_ GE160.out) | exact HB.out)⟩⟩
    · rw [if_neg c4] at H
      have c4b0 : decide (a0_0 < 0) = false := decide_eq_false c4
      clear c4
      (first | rw [c4b0] | (simp only [i64_w, i32_w]; rw [c4b0]) | skip)
      by_cases c6 : a0_0 ≥ 4
      · rw [if_pos c6] at H
        have c6b0 : decide (4 ≤ a0_0) = true := decide_eq_true c6
        clear c6
        have H' := Aside0.mk H
        clear H
        have hcz7_0 : w3.cell? ⟨gb160, 0, none⟩ = some (.int .i64 a0_0) := (blk_cell BK160.out 0).trans rfl
        have hcz7_1 : w3.cell? ⟨gb160, 1, none⟩ = some (.string a0_1) := (blk_cell BK160.out 1).trans rfl
        have hcz7_2 : w3.cell? ⟨gb160, 2, none⟩ = some (.int .i64 a0_2) := (blk_cell BK160.out 2).trans rfl
        have hcz7_3 : w3.cell? ⟨gb160, 3, none⟩ = some (.int .u64 a0_3) := (blk_cell BK160.out 3).trans rfl
        have hcz7_4 : w3.cell? ⟨gb160, 4, none⟩ = some (.int .u64 a0_4) := (blk_cell BK160.out 4).trans rfl
        have hfz7_0 := blk_frozen BK160.out 0
        have hfz7_1 := blk_frozen BK160.out 1
        have hfz7_2 := blk_frozen BK160.out 2
        have hfz7_3 := blk_frozen BK160.out 3
        have hfz7_4 := blk_frozen BK160.out 4
        go_wp2
        go_meet
        case rel => exact ⟨_, (true), (by first | rfl | (simp; done) | (simp [*]; done)), H', ⟨by first | omega | exact Nat.le_refl _⟩, ⟨by (with_reducible repeat (first | refine blk_drewN ?_ _ | refine blk_drew ?_ | refine blk_alloc ?_ _)); exact BK160.out⟩, ⟨by repeat (first | (with_reducible first | exact HB.out | apply below_alloc | apply pw_below_drewN | apply below_drew1 | refine below_set ?_ GE160.out) | exact HB.out)⟩⟩
      · rw [if_neg c6] at H
        have c6b0 : decide (4 ≤ a0_0) = false := decide_eq_false c6
        clear c6
        by_cases c8 : a0_2 < 0
        · rw [if_pos c8] at H
          have c8b0 : decide (a0_2 < 0) = true := decide_eq_true c8
          clear c8
          have H' := Aside0.mk H
          clear H
          have hcz9_0 : w3.cell? ⟨gb160, 0, none⟩ = some (.int .i64 a0_0) := (blk_cell BK160.out 0).trans rfl
          have hcz9_1 : w3.cell? ⟨gb160, 1, none⟩ = some (.string a0_1) := (blk_cell BK160.out 1).trans rfl
          have hcz9_2 : w3.cell? ⟨gb160, 2, none⟩ = some (.int .i64 a0_2) := (blk_cell BK160.out 2).trans rfl
          have hcz9_3 : w3.cell? ⟨gb160, 3, none⟩ = some (.int .u64 a0_3) := (blk_cell BK160.out 3).trans rfl
          have hcz9_4 : w3.cell? ⟨gb160, 4, none⟩ = some (.int .u64 a0_4) := (blk_cell BK160.out 4).trans rfl
          have hfz9_0 := blk_frozen BK160.out 0
          have hfz9_1 := blk_frozen BK160.out 1
          have hfz9_2 := blk_frozen BK160.out 2
          have hfz9_3 := blk_frozen BK160.out 3
          have hfz9_4 := blk_frozen BK160.out 4
          go_wp2
          go_meet
          case rel => exact ⟨_, (true), (by first | rfl | (simp; done) | (simp [*]; done)), H', ⟨by first | omega | exact Nat.le_refl _⟩, ⟨by (with_reducible repeat (first | refine blk_drewN ?_ _ | refine blk_drew ?_ | refine blk_alloc ?_ _)); exact BK160.out⟩, ⟨by repeat (first | (with_reducible first | exact HB.out | apply below_alloc | apply pw_below_drewN | apply below_drew1 | refine below_set ?_ GE160.out) | exact HB.out)⟩⟩
        · rw [if_neg c8] at H
          have c8b0 : decide (a0_2 < 0) = false := decide_eq_false c8
          clear c8
          have H' := Aside0.mk H
          clear H
          have hcz10_0 : w3.cell? ⟨gb160, 0, none⟩ = some (.int .i64 a0_0) := (blk_cell BK160.out 0).trans rfl
          have hcz10_1 : w3.cell? ⟨gb160, 1, none⟩ = some (.string a0_1) := (blk_cell BK160.out 1).trans rfl
          have hcz10_2 : w3.cell? ⟨gb160, 2, none⟩ = some (.int .i64 a0_2) := (blk_cell BK160.out 2).trans rfl
          have hcz10_3 : w3.cell? ⟨gb160, 3, none⟩ = some (.int .u64 a0_3) := (blk_cell BK160.out 3).trans rfl
          have hcz10_4 : w3.cell? ⟨gb160, 4, none⟩ = some (.int .u64 a0_4) := (blk_cell BK160.out 4).trans rfl
          have hfz10_0 := blk_frozen BK160.out 0
          have hfz10_1 := blk_frozen BK160.out 1
          have hfz10_2 := blk_frozen BK160.out 2
          have hfz10_3 := blk_frozen BK160.out 3
          have hfz10_4 := blk_frozen BK160.out 4
          go_wp2
          go_meet
          case rel => exact ⟨_, (decide (a0_2 > 1099511627776)), (by first | rfl | (simp; done) | (simp [*]; done)), H', ⟨by first | omega | exact Nat.le_refl _⟩, ⟨by (with_reducible repeat (first | refine blk_drewN ?_ _ | refine blk_drew ?_ | refine blk_alloc ?_ _)); exact BK160.out⟩, ⟨by repeat (first | (with_reducible first | exact HB.out | apply below_alloc | apply pw_below_drewN | apply below_drew1 | refine below_set ?_ GE160.out) | exact HB.out)⟩⟩
  case rest =>
    clear HC2
    try clear c1
    try clear p2
    try clear c4
    try clear c4b0
    try clear c6
    try clear c6b0
    try clear c8
    try clear c8b0
    try clear c10
    try clear hcz10_0
    try clear hcz10_1
    try clear hcz10_2
    try clear hcz10_3
    try clear hcz10_4
    try clear hcz5_0
    try clear hcz5_1
    try clear hcz5_2
    try clear hcz5_3
    try clear hcz5_4
    try clear hcz7_0
    try clear hcz7_1
    try clear hcz7_2
    try clear hcz7_3
    try clear hcz7_4
    try clear hcz9_0
    try clear hcz9_1
    try clear hcz9_2
    try clear hcz9_3
    try clear hcz9_4
    try clear hfz10_0
    try clear hfz10_1
    try clear hfz10_2
    try clear hfz10_3
    try clear hfz10_4
    try clear hfz5_0
    try clear hfz5_1
    try clear hfz5_2
    try clear hfz5_3
    try clear hfz5_4
    try clear hfz7_0
    try clear hfz7_1
    try clear hfz7_2
    try clear hfz7_3
    try clear hfz7_4
    try clear hfz9_0
    try clear hfz9_1
    try clear hfz9_2
    try clear hfz9_3
    try clear hfz9_4
    obtain ⟨kq, x26_1, rfl, HA, HJ1, BK160, HB⟩ := hcut
    cases kq with
    | zero => exact absurd HA.out (by simp [thermographref09_Encode.j0])
    | succ kj1 =>
      have H := HA.out
      clear HA
      simp only [thermographref09_Encode.j0] at H
      by_cases c11 : x26_1 = true
      · subst c11
        have H1 : (some (([] : List Int), 1)) = some (r1, r2) := by rw [if_pos rfl] at H; exact H
        clear H
        have H := H1
        clear H1
        simp only [Option.some.injEq, Prod.mk.injEq] at H
        obtain ⟨rfl, rfl⟩ := H
        go_wp2
        go_ret2
        exact ⟨_, by first | rfl | (simp [errW_none, errW_some] <;> rfl) | (simp [*, errW_none, errW_some] <;> rfl), by first | exact Kd.R_nil _ _ _ _ _ | exact Kd.N_nil _ _ _ _ _ | exact Kd.V_nil _ _ _ _ _ | exact Kd.Q_nil _ _ _ _ _ | exact Kd.S_nil _ _ _ _ _, by repeat (first | (with_reducible first | exact HB.out | apply below_alloc | apply pw_below_drewN | apply below_drew1 | refine below_set ?_ GE160.out) | exact HB.out)⟩
      · replace c11 := Bool.eq_false_iff.mpr c11
        subst c11
        have H1 : (if (a0_1.size : Int) < 1 then (thermographref09_Encode.j1 kj1 true a0_0 a0_1 a0_2 a0_3 a0_4) else (thermographref09_Encode.j1 kj1 (decide ((a0_1.size : Int) > 16)) a0_0 a0_1 a0_2 a0_3 a0_4)) = some (r1, r2) := by rw [if_neg (show ¬ (false = true) by decide)] at H; exact H
        clear H
        have H := H1
        clear H1
        have HC12 := Aside0.mk H
        clear H
        go_upto_region 3 with (fail)
        go_cut [36] (fun v36 wc => ∃ (kq : Nat) (x36_11 : Bool), v36 = .bool x36_11 ∧ Aside0 (thermographref09_Encode.j1 kq x36_11 a0_0 a0_1 a0_2 a0_3 a0_4 = some (r1, r2)) ∧ Aside0 (kq ≤ kj1) ∧ Aside0 (wc.heap[gb160]? = some (.cells #[.int .i64 a0_0, .string a0_1, .int .i64 a0_2, .int .u64 a0_3, .int .u64 a0_4] 32 (0, 0))) ∧ Aside0 (Below w.heap.size w wc))
        case first =>
          have H := HC12.out
          clear HC12
          by_cases c13 : (a0_1.size : Int) < 1
          · rw [if_pos c13] at H
            have c13b0 : decide ((a0_1.size : Int) < 1) = true := decide_eq_true c13
            have c13b1 : decide (a0_1.size < 1) = true := decide_eq_true (by omega)
            clear c13
            (first | rw [c13b0] | (simp only [i64_w, i32_w]; rw [c13b0]) | skip)
            have H' := Aside0.mk H
            clear H
            have hcz14_0 : wc.cell? ⟨gb160, 0, none⟩ = some (.int .i64 a0_0) := (blk_cell BK160.out 0).trans rfl
            have hcz14_1 : wc.cell? ⟨gb160, 1, none⟩ = some (.string a0_1) := (blk_cell BK160.out 1).trans rfl
            have hcz14_2 : wc.cell? ⟨gb160, 2, none⟩ = some (.int .i64 a0_2) := (blk_cell BK160.out 2).trans rfl
            have hcz14_3 : wc.cell? ⟨gb160, 3, none⟩ = some (.int .u64 a0_3) := (blk_cell BK160.out 3).trans rfl
            have hcz14_4 : wc.cell? ⟨gb160, 4, none⟩ = some (.int .u64 a0_4) := (blk_cell BK160.out 4).trans rfl
            have hfz14_0 := blk_frozen BK160.out 0
            have hfz14_1 := blk_frozen BK160.out 1
            have hfz14_2 := blk_frozen BK160.out 2
            have hfz14_3 := blk_frozen BK160.out 3
            have hfz14_4 := blk_frozen BK160.out 4
            go_wp2
            go_meet
            case rel => exact ⟨_, (true), (by first | rfl | (simp; done) | (simp [*]; done)), H', ⟨by have := HJ1.out; first | omega | exact Nat.le_refl _⟩, ⟨by (with_reducible repeat (first | refine blk_drewN ?_ _ | refine blk_drew ?_ | refine blk_alloc ?_ _)); exact BK160.out⟩, ⟨by repeat (first | (with_reducible first | exact HB.out | apply below_alloc | apply pw_below_drewN | apply below_drew1 | refine below_set ?_ GE160.out) | exact HB.out)⟩⟩
          · rw [if_neg c13] at H
            have c13b0 : decide ((a0_1.size : Int) < 1) = false := decide_eq_false c13
            have c13b1 : decide (a0_1.size < 1) = false := decide_eq_false (by omega)
            clear c13
            (first | rw [c13b0] | (simp only [i64_w, i32_w]; rw [c13b0]) | skip)
            have H' := Aside0.mk H
            clear H
            have hcz15_0 : wc.cell? ⟨gb160, 0, none⟩ = some (.int .i64 a0_0) := (blk_cell BK160.out 0).trans rfl
            have hcz15_1 : wc.cell? ⟨gb160, 1, none⟩ = some (.string a0_1) := (blk_cell BK160.out 1).trans rfl
            have hcz15_2 : wc.cell? ⟨gb160, 2, none⟩ = some (.int .i64 a0_2) := (blk_cell BK160.out 2).trans rfl
            have hcz15_3 : wc.cell? ⟨gb160, 3, none⟩ = some (.int .u64 a0_3) := (blk_cell BK160.out 3).trans rfl
            have hcz15_4 : wc.cell? ⟨gb160, 4, none⟩ = some (.int .u64 a0_4) := (blk_cell BK160.out 4).trans rfl
            have hfz15_0 := blk_frozen BK160.out 0
            have hfz15_1 := blk_frozen BK160.out 1
            have hfz15_2 := blk_frozen BK160.out 2
            have hfz15_3 := blk_frozen BK160.out 3
            have hfz15_4 := blk_frozen BK160.out 4
            go_wp2
            go_meet
            case rel => exact ⟨_, (decide ((a0_1.size : Int) > 16)), (by first | rfl | (simp; done) | (simp [*]; done)), H', ⟨by have := HJ1.out; first | omega | exact Nat.le_refl _⟩, ⟨by (with_reducible repeat (first | refine blk_drewN ?_ _ | refine blk_drew ?_ | refine blk_alloc ?_ _)); exact BK160.out⟩, ⟨by repeat (first | (with_reducible first | exact HB.out | apply below_alloc | apply pw_below_drewN | apply below_drew1 | refine below_set ?_ GE160.out) | exact HB.out)⟩⟩
        case rest =>
          clear HC12
          try clear c1
          try clear p2
          try clear c4
          try clear c4b0
          try clear c6
          try clear c6b0
          try clear c8
          try clear c8b0
          try clear c10
          try clear c11
          try clear c13
          try clear c13b0
          try clear c13b1
          try clear hcz10_0
          try clear hcz10_1
          try clear hcz10_2
          try clear hcz10_3
          try clear hcz10_4
          try clear hcz14_0
          try clear hcz14_1
          try clear hcz14_2
          try clear hcz14_3
          try clear hcz14_4
          try clear hcz15_0
          try clear hcz15_1
          try clear hcz15_2
          try clear hcz15_3
          try clear hcz15_4
          try clear hcz5_0
          try clear hcz5_1
          try clear hcz5_2
          try clear hcz5_3
          try clear hcz5_4
          try clear hcz7_0
          try clear hcz7_1
          try clear hcz7_2
          try clear hcz7_3
          try clear hcz7_4
          try clear hcz9_0
          try clear hcz9_1
          try clear hcz9_2
          try clear hcz9_3
          try clear hcz9_4
          try clear hfz10_0
          try clear hfz10_1
          try clear hfz10_2
          try clear hfz10_3
          try clear hfz10_4
          try clear hfz14_0
          try clear hfz14_1
          try clear hfz14_2
          try clear hfz14_3
          try clear hfz14_4
          try clear hfz15_0
          try clear hfz15_1
          try clear hfz15_2
          try clear hfz15_3
          try clear hfz15_4
          try clear hfz5_0
          try clear hfz5_1
          try clear hfz5_2
          try clear hfz5_3
          try clear hfz5_4
          try clear hfz7_0
          try clear hfz7_1
          try clear hfz7_2
          try clear hfz7_3
          try clear hfz7_4
          try clear hfz9_0
          try clear hfz9_1
          try clear hfz9_2
          try clear hfz9_3
          try clear hfz9_4
          try clear p2
          obtain ⟨kq, x36_11, rfl, HA, HJ11, BK160, HB⟩ := hcut
          cases kq with
          | zero => exact absurd HA.out (by simp [thermographref09_Encode.j1])
          | succ kj11 =>
            have H := HA.out
            clear HA
            simp only [thermographref09_Encode.j1] at H
            by_cases c16 : x36_11 = true
            · subst c16
              have H1 : (some (([] : List Int), 80)) = some (r1, r2) := by rw [if_pos rfl] at H; exact H
              clear H
              have H := H1
              clear H1
              simp only [Option.some.injEq, Prod.mk.injEq] at H
              obtain ⟨rfl, rfl⟩ := H
              go_wp2
              go_ret2
              exact ⟨_, by first | rfl | (simp [errW_none, errW_some] <;> rfl) | (simp [*, errW_none, errW_some] <;> rfl), by first | exact Kd.R_nil _ _ _ _ _ | exact Kd.N_nil _ _ _ _ _ | exact Kd.V_nil _ _ _ _ _ | exact Kd.Q_nil _ _ _ _ _ | exact Kd.S_nil _ _ _ _ _, by repeat (first | (with_reducible first | exact HB.out | apply below_alloc | apply pw_below_drewN | apply below_drew1 | refine below_set ?_ GE160.out) | exact HB.out)⟩
            · replace c16 := Bool.eq_false_iff.mpr c16
              subst c16
              have H1 : ((thermographref03_Uvarint.f kj11 ([] : List Int) (IntKind.u64.wrap (a0_0))).bind fun t161 => ((thermographref08_Text.f kj11 t161 a0_1).bind fun t164 => ((thermographref03_Uvarint.f kj11 t164 (IntKind.u64.wrap (a0_2))).bind fun t167 => ((thermographref09_Wide.f kj11 t167 a0_3).bind fun t170 => ((thermographref09_Wide.f kj11 t170 a0_4).bind fun t173 => ((thermographref04_Adler.f kj11 t173).bind fun t176 => ((thermographref03_Uvarint.f kj11 ([] : List Int) (IntKind.u64.wrap ((t173.length : Int)))).bind fun t177 => ((some (([(t176 / 16777216) % 256, (t176 / 65536) % 256, (t176 / 256) % 256, (t176) % 256] : List Int) : List Int)).bind fun y180 => (if t177.length + y180.length < 140737488355328 then ((some (t177 ++ y180 : List Int)).bind fun y183 => (if y183.length + t173.length < 140737488355328 then (some ((y183 ++ t173), 0)) else (none))) else (none)))))))))) = some (r1, r2) := by rw [if_neg (show ¬ (false = true) by decide)] at H; exact H
              clear H
              have H := H1
              clear H1
              replace H := Option.bind_eq_some_iff.mp H
              obtain ⟨t161, A170, H⟩ := H
              replace H : ((thermographref08_Text.f kj11 t161 a0_1).bind fun t164 => ((thermographref03_Uvarint.f kj11 t164 (IntKind.u64.wrap (a0_2))).bind fun t167 => ((thermographref09_Wide.f kj11 t167 a0_3).bind fun t170 => ((thermographref09_Wide.f kj11 t170 a0_4).bind fun t173 => ((thermographref04_Adler.f kj11 t173).bind fun t176 => ((thermographref03_Uvarint.f kj11 ([] : List Int) (IntKind.u64.wrap ((t173.length : Int)))).bind fun t177 => ((some (([(t176 / 16777216) % 256, (t176 / 65536) % 256, (t176 / 256) % 256, (t176) % 256] : List Int) : List Int)).bind fun y180 => (if t177.length + y180.length < 140737488355328 then ((some (t177 ++ y180 : List Int)).bind fun y183 => (if y183.length + t173.length < 140737488355328 then (some ((y183 ++ t173), 0)) else (none))) else (none))))))))) = some (r1, r2) := H
              have A17 := Aside0.mk A170
              clear A170
              replace H := Option.bind_eq_some_iff.mp H
              obtain ⟨t164, A180, H⟩ := H
              replace H : ((thermographref03_Uvarint.f kj11 t164 (IntKind.u64.wrap (a0_2))).bind fun t167 => ((thermographref09_Wide.f kj11 t167 a0_3).bind fun t170 => ((thermographref09_Wide.f kj11 t170 a0_4).bind fun t173 => ((thermographref04_Adler.f kj11 t173).bind fun t176 => ((thermographref03_Uvarint.f kj11 ([] : List Int) (IntKind.u64.wrap ((t173.length : Int)))).bind fun t177 => ((some (([(t176 / 16777216) % 256, (t176 / 65536) % 256, (t176 / 256) % 256, (t176) % 256] : List Int) : List Int)).bind fun y180 => (if t177.length + y180.length < 140737488355328 then ((some (t177 ++ y180 : List Int)).bind fun y183 => (if y183.length + t173.length < 140737488355328 then (some ((y183 ++ t173), 0)) else (none))) else (none)))))))) = some (r1, r2) := H
              have A18 := Aside0.mk A180
              clear A180
              replace H := Option.bind_eq_some_iff.mp H
              obtain ⟨t167, A190, H⟩ := H
              replace H : ((thermographref09_Wide.f kj11 t167 a0_3).bind fun t170 => ((thermographref09_Wide.f kj11 t170 a0_4).bind fun t173 => ((thermographref04_Adler.f kj11 t173).bind fun t176 => ((thermographref03_Uvarint.f kj11 ([] : List Int) (IntKind.u64.wrap ((t173.length : Int)))).bind fun t177 => ((some (([(t176 / 16777216) % 256, (t176 / 65536) % 256, (t176 / 256) % 256, (t176) % 256] : List Int) : List Int)).bind fun y180 => (if t177.length + y180.length < 140737488355328 then ((some (t177 ++ y180 : List Int)).bind fun y183 => (if y183.length + t173.length < 140737488355328 then (some ((y183 ++ t173), 0)) else (none))) else (none))))))) = some (r1, r2) := H
              have A19 := Aside0.mk A190
              clear A190
              replace H := Option.bind_eq_some_iff.mp H
              obtain ⟨t170, A200, H⟩ := H
              replace H : ((thermographref09_Wide.f kj11 t170 a0_4).bind fun t173 => ((thermographref04_Adler.f kj11 t173).bind fun t176 => ((thermographref03_Uvarint.f kj11 ([] : List Int) (IntKind.u64.wrap ((t173.length : Int)))).bind fun t177 => ((some (([(t176 / 16777216) % 256, (t176 / 65536) % 256, (t176 / 256) % 256, (t176) % 256] : List Int) : List Int)).bind fun y180 => (if t177.length + y180.length < 140737488355328 then ((some (t177 ++ y180 : List Int)).bind fun y183 => (if y183.length + t173.length < 140737488355328 then (some ((y183 ++ t173), 0)) else (none))) else (none)))))) = some (r1, r2) := H
              have A20 := Aside0.mk A200
              clear A200
              replace H := Option.bind_eq_some_iff.mp H
              obtain ⟨t173, A210, H⟩ := H
              replace H : ((thermographref04_Adler.f kj11 t173).bind fun t176 => ((thermographref03_Uvarint.f kj11 ([] : List Int) (IntKind.u64.wrap ((t173.length : Int)))).bind fun t177 => ((some (([(t176 / 16777216) % 256, (t176 / 65536) % 256, (t176 / 256) % 256, (t176) % 256] : List Int) : List Int)).bind fun y180 => (if t177.length + y180.length < 140737488355328 then ((some (t177 ++ y180 : List Int)).bind fun y183 => (if y183.length + t173.length < 140737488355328 then (some ((y183 ++ t173), 0)) else (none))) else (none))))) = some (r1, r2) := H
              have A21 := Aside0.mk A210
              clear A210
              replace H := Option.bind_eq_some_iff.mp H
              obtain ⟨t176, A220, H⟩ := H
              replace H : ((thermographref03_Uvarint.f kj11 ([] : List Int) (IntKind.u64.wrap ((t173.length : Int)))).bind fun t177 => ((some (([(t176 / 16777216) % 256, (t176 / 65536) % 256, (t176 / 256) % 256, (t176) % 256] : List Int) : List Int)).bind fun y180 => (if t177.length + y180.length < 140737488355328 then ((some (t177 ++ y180 : List Int)).bind fun y183 => (if y183.length + t173.length < 140737488355328 then (some ((y183 ++ t173), 0)) else (none))) else (none)))) = some (r1, r2) := H
              have A22 := Aside0.mk A220
              clear A220
              replace H := Option.bind_eq_some_iff.mp H
              obtain ⟨t177, A230, H⟩ := H
              replace H : ((some (([(t176 / 16777216) % 256, (t176 / 65536) % 256, (t176 / 256) % 256, (t176) % 256] : List Int) : List Int)).bind fun y180 => (if t177.length + y180.length < 140737488355328 then ((some (t177 ++ y180 : List Int)).bind fun y183 => (if y183.length + t173.length < 140737488355328 then (some ((y183 ++ t173), 0)) else (none))) else (none))) = some (r1, r2) := H
              have A23 := Aside0.mk A230
              clear A230
              obtain ⟨y180, hy180⟩ : ∃ y_ : List Int, y_ = (([(t176 / 16777216) % 256, (t176 / 65536) % 256, (t176 / 256) % 256, (t176) % 256] : List Int)) := ⟨_, rfl⟩
              replace H : (if t177.length + y180.length < 140737488355328 then ((some (t177 ++ y180 : List Int)).bind fun y183 => (if y183.length + t173.length < 140737488355328 then (some ((y183 ++ t173), 0)) else (none))) else (none)) = some (r1, r2) := by first | (rw [hy180]; with_reducible exact H) | (have H2_ := (Option.bind_some _ _).symm.trans H; rw [hy180]; with_reducible exact H2_) | (have H2_ := (Option.bind_some _ _).symm.trans H; with_reducible exact H2_) | with_reducible exact H | (rw [hy180]; exact H) | exact H
              have Ny180 := Aside0.mk hy180
              clear hy180
              by_cases c24 : t177.length + y180.length < 140737488355328
              · rw [if_pos c24] at H
                have LMc24 := Aside0.mk c24
                clear c24
                obtain ⟨y183, hy183⟩ : ∃ y_ : List Int, y_ = (t177 ++ y180) := ⟨_, rfl⟩
                replace H : (if y183.length + t173.length < 140737488355328 then (some ((y183 ++ t173), 0)) else (none)) = some (r1, r2) := by first | (rw [hy183]; with_reducible exact H) | (have H2_ := (Option.bind_some _ _).symm.trans H; rw [hy183]; with_reducible exact H2_) | (have H2_ := (Option.bind_some _ _).symm.trans H; with_reducible exact H2_) | with_reducible exact H | (rw [hy183]; exact H) | exact H
                have Ny183 := Aside0.mk hy183
                clear hy183
                by_cases c25 : y183.length + t173.length < 140737488355328
                · rw [if_pos c25] at H
                  have LMc25 := Aside0.mk c25
                  clear c25
                  obtain ⟨y186, hy186⟩ : ∃ y_ : List Int, y_ = (y183 ++ t173) := ⟨_, rfl⟩
                  replace H : (some (y186, 0)) = some (r1, r2) := by first | (rw [hy186]; with_reducible exact H) | (have H2_ := (Option.bind_some _ _).symm.trans H; rw [hy186]; with_reducible exact H2_) | (have H2_ := (Option.bind_some _ _).symm.trans H; with_reducible exact H2_) | with_reducible exact H | (rw [hy186]; exact H) | exact H
                  have Ny186 := Aside0.mk hy186
                  clear hy186
                  simp only [Option.some.injEq, Prod.mk.injEq] at H
                  obtain ⟨rfl, rfl⟩ := H
                  have hcz26_0 : wc.cell? ⟨gb160, 0, none⟩ = some (.int .i64 a0_0) := (blk_cell BK160.out 0).trans rfl
                  have hcz26_1 : wc.cell? ⟨gb160, 1, none⟩ = some (.string a0_1) := (blk_cell BK160.out 1).trans rfl
                  have hcz26_2 : wc.cell? ⟨gb160, 2, none⟩ = some (.int .i64 a0_2) := (blk_cell BK160.out 2).trans rfl
                  have hcz26_3 : wc.cell? ⟨gb160, 3, none⟩ = some (.int .u64 a0_3) := (blk_cell BK160.out 3).trans rfl
                  have hcz26_4 : wc.cell? ⟨gb160, 4, none⟩ = some (.int .u64 a0_4) := (blk_cell BK160.out 4).trans rfl
                  have hfz26_0 := blk_frozen BK160.out 0
                  have hfz26_1 := blk_frozen BK160.out 1
                  have hfz26_2 := blk_frozen BK160.out 2
                  have hfz26_3 := blk_frozen BK160.out 3
                  have hfz26_4 := blk_frozen BK160.out 4
                  go_wp2_with (first | ((with_reducible refine gate_callee (f := 17) rfl ?_); refine goesL_ (some 40) rfl rfl Try.func17 (by kernel_rfl) rfl #[.slice none 0 0, .int .u64 (IntKind.u64.wrap (a0_0))] rfl (by (try simp only [List.map_toArray, List.map_cons, List.map_nil]); first | done | rfl | (simp only [List.length_drop, List.length_take]; rfl)) ?_; (refine (thermographref03_Uvarint.calls kj11 _ _ ([] : List Int) (IntKind.u64.wrap (a0_0)) t161 _ ?side1 ?side2 A17.out).mono ?_); (case side1 => exact Kd.C_nil _ _); (case side2 => exact Nat.le_refl _); rintro e w27 ⟨v162, rfl, ho0, hb⟩; refine ⟨_, rfl, ?_⟩; have n0_ := Aside0.mk (Kd.R_lower ho0 (below_size (by repeat (first | (with_reducible first | exact HB.out | apply below_alloc | apply pw_below_drewN | apply below_drew1 | refine below_set ?_ GE160.out) | exact HB.out)))); have n1_ := Aside0.mk (blk_below (g := gb160) (o := .cells #[.int .i64 a0_0, .string a0_1, .int .i64 a0_2, .int .u64 a0_3, .int .u64 a0_4] 32 (0, 0)) (by (with_reducible repeat (first | refine blk_drewN ?_ _ | refine blk_drew ?_ | refine blk_alloc ?_ _)); exact BK160.out) hb); have n2_ := Aside0.mk (below_step (by repeat (first | (with_reducible first | exact HB.out | apply below_alloc | apply pw_below_drewN | apply below_drew1 | refine below_set ?_ GE160.out) | exact HB.out)) hb); clear BK160; clear HB; have HO163 := n0_; have BK160 := n1_; have HB := n2_; clear n0_ n1_ n2_; (try clear hb); (try clear hb2); (try clear hk); (try clear hi); (try clear ho0); have hcz28_0 : w27.cell? ⟨gb160, 0, none⟩ = some (.int .i64 a0_0) := (blk_cell BK160.out 0).trans rfl; have hcz28_1 : w27.cell? ⟨gb160, 1, none⟩ = some (.string a0_1) := (blk_cell BK160.out 1).trans rfl; have hcz28_2 : w27.cell? ⟨gb160, 2, none⟩ = some (.int .i64 a0_2) := (blk_cell BK160.out 2).trans rfl; have hcz28_3 : w27.cell? ⟨gb160, 3, none⟩ = some (.int .u64 a0_3) := (blk_cell BK160.out 3).trans rfl; have hcz28_4 : w27.cell? ⟨gb160, 4, none⟩ = some (.int .u64 a0_4) := (blk_cell BK160.out 4).trans rfl; have hfz28_0 := blk_frozen BK160.out 0; have hfz28_1 := blk_frozen BK160.out 1; have hfz28_2 := blk_frozen BK160.out 2; have hfz28_3 := blk_frozen BK160.out 3; have hfz28_4 := blk_frozen BK160.out 4; obtain ⟨Ao29, co29, eo29⟩ := Kd.R_slice HO163.out; subst eo29) | ((with_reducible refine gate_callee (f := 18) rfl ?_); refine goesL_ (some 44) rfl rfl Try.func18 (by kernel_rfl) rfl #[.slice Ao29 t161.length co29, .string a0_1] rfl (by (try simp only [List.map_toArray, List.map_cons, List.map_nil]); first | done | rfl | (simp only [List.length_drop, List.length_take]; rfl)) ?_; (with_reducible refine (thermographref08_Text.calls kj11 _ _ t161 a0_1 t164 _ ?side1 ?side2 A18.out).mono ?_); (case side1 => repeat (first | exact (Kd.R_reads' HO163.out).2.2 | (with_reducible refine Kd.C_alloc ?_ _) | (with_reducible refine Kd.C_drewN ?_ _) | (with_reducible refine Kd.C_drew ?_))); (case side2 => exact (Kd.R_reads' HO163.out).2.1); rintro e w30 ⟨v165, rfl, ho0, hb⟩; refine ⟨_, rfl, ?_⟩; have n0_ := Aside0.mk (Kd.R_elder' (by (with_reducible repeat (first | apply Kd.R_alloc | apply Kd.R_drewN | apply Kd.R_drew)); exact HO163.out) (Kd.R_base ho0) hb); have n1_ := Aside0.mk (Kd.R_lower (Kd.R_new' ho0 (Kd.R_lt (by (with_reducible repeat (first | apply Kd.R_alloc | apply Kd.R_drewN | apply Kd.R_drew)); exact HO163.out))) (below_size (by repeat (first | (with_reducible first | exact HB.out | apply below_alloc | apply pw_below_drewN | apply below_drew1 | refine below_set ?_ GE160.out) | exact HB.out)))); have n2_ := Aside0.mk (blk_below (g := gb160) (o := .cells #[.int .i64 a0_0, .string a0_1, .int .i64 a0_2, .int .u64 a0_3, .int .u64 a0_4] 32 (0, 0)) (by (with_reducible repeat (first | refine blk_drewN ?_ _ | refine blk_drew ?_ | refine blk_alloc ?_ _)); exact BK160.out) hb); have n3_ := Aside0.mk (below_step (by repeat (first | (with_reducible first | exact HB.out | apply below_alloc | apply pw_below_drewN | apply below_drew1 | refine below_set ?_ GE160.out) | exact HB.out)) hb); clear HO163; clear BK160; clear HB; have HO163 := n0_; have HO166 := n1_; have BK160 := n2_; have HB := n3_; clear n0_ n1_ n2_ n3_; (try clear hb); (try clear hb2); (try clear hk); (try clear hi); (try clear ho0); have hcz31_0 : w30.cell? ⟨gb160, 0, none⟩ = some (.int .i64 a0_0) := (blk_cell BK160.out 0).trans rfl; have hcz31_1 : w30.cell? ⟨gb160, 1, none⟩ = some (.string a0_1) := (blk_cell BK160.out 1).trans rfl; have hcz31_2 : w30.cell? ⟨gb160, 2, none⟩ = some (.int .i64 a0_2) := (blk_cell BK160.out 2).trans rfl; have hcz31_3 : w30.cell? ⟨gb160, 3, none⟩ = some (.int .u64 a0_3) := (blk_cell BK160.out 3).trans rfl; have hcz31_4 : w30.cell? ⟨gb160, 4, none⟩ = some (.int .u64 a0_4) := (blk_cell BK160.out 4).trans rfl; have hfz31_0 := blk_frozen BK160.out 0; have hfz31_1 := blk_frozen BK160.out 1; have hfz31_2 := blk_frozen BK160.out 2; have hfz31_3 := blk_frozen BK160.out 3; have hfz31_4 := blk_frozen BK160.out 4; obtain ⟨Ao32, co32, eo32⟩ := Kd.R_slice HO166.out; subst eo32) | ((with_reducible refine gate_callee (f := 17) rfl ?_); refine goesL_ (some 50) rfl rfl Try.func17 (by kernel_rfl) rfl #[.slice Ao32 t164.length co32, .int .u64 (IntKind.u64.wrap (a0_2))] rfl (by (try simp only [List.map_toArray, List.map_cons, List.map_nil]); first | done | rfl | (simp only [List.length_drop, List.length_take]; rfl)) ?_; (with_reducible refine (thermographref03_Uvarint.calls kj11 _ _ t164 (IntKind.u64.wrap (a0_2)) t167 _ ?side1 ?side2 A19.out).mono ?_); (case side1 => repeat (first | exact (Kd.R_reads' HO166.out).2.2 | (with_reducible refine Kd.C_alloc ?_ _) | (with_reducible refine Kd.C_drewN ?_ _) | (with_reducible refine Kd.C_drew ?_))); (case side2 => exact (Kd.R_reads' HO166.out).2.1); rintro e w33 ⟨v168, rfl, ho0, hb⟩; refine ⟨_, rfl, ?_⟩; have n0_ := Aside0.mk (Kd.R_elder' (by (with_reducible repeat (first | apply Kd.R_alloc | apply Kd.R_drewN | apply Kd.R_drew)); exact HO163.out) (Kd.R_base ho0) hb); have n1_ := Aside0.mk (Kd.R_elder' (by (with_reducible repeat (first | apply Kd.R_alloc | apply Kd.R_drewN | apply Kd.R_drew)); exact HO166.out) (Kd.R_base ho0) hb); have n2_ := Aside0.mk (Kd.R_lower (Kd.R_new' (Kd.R_new' ho0 (Kd.R_lt (by (with_reducible repeat (first | apply Kd.R_alloc | apply Kd.R_drewN | apply Kd.R_drew)); exact HO163.out))) (Kd.R_lt (by (with_reducible repeat (first | apply Kd.R_alloc | apply Kd.R_drewN | apply Kd.R_drew)); exact HO166.out))) (below_size (by repeat (first | (with_reducible first | exact HB.out | apply below_alloc | apply pw_below_drewN | apply below_drew1 | refine below_set ?_ GE160.out) | exact HB.out)))); have n3_ := Aside0.mk (blk_below (g := gb160) (o := .cells #[.int .i64 a0_0, .string a0_1, .int .i64 a0_2, .int .u64 a0_3, .int .u64 a0_4] 32 (0, 0)) (by (with_reducible repeat (first | refine blk_drewN ?_ _ | refine blk_drew ?_ | refine blk_alloc ?_ _)); exact BK160.out) hb); have n4_ := Aside0.mk (below_step (by repeat (first | (with_reducible first | exact HB.out | apply below_alloc | apply pw_below_drewN | apply below_drew1 | refine below_set ?_ GE160.out) | exact HB.out)) hb); clear HO163; clear HO166; clear BK160; clear HB; have HO163 := n0_; have HO166 := n1_; have HO169 := n2_; have BK160 := n3_; have HB := n4_; clear n0_ n1_ n2_ n3_ n4_; (try clear hb); (try clear hb2); (try clear hk); (try clear hi); (try clear ho0); have hcz34_0 : w33.cell? ⟨gb160, 0, none⟩ = some (.int .i64 a0_0) := (blk_cell BK160.out 0).trans rfl; have hcz34_1 : w33.cell? ⟨gb160, 1, none⟩ = some (.string a0_1) := (blk_cell BK160.out 1).trans rfl; have hcz34_2 : w33.cell? ⟨gb160, 2, none⟩ = some (.int .i64 a0_2) := (blk_cell BK160.out 2).trans rfl; have hcz34_3 : w33.cell? ⟨gb160, 3, none⟩ = some (.int .u64 a0_3) := (blk_cell BK160.out 3).trans rfl; have hcz34_4 : w33.cell? ⟨gb160, 4, none⟩ = some (.int .u64 a0_4) := (blk_cell BK160.out 4).trans rfl; have hfz34_0 := blk_frozen BK160.out 0; have hfz34_1 := blk_frozen BK160.out 1; have hfz34_2 := blk_frozen BK160.out 2; have hfz34_3 := blk_frozen BK160.out 3; have hfz34_4 := blk_frozen BK160.out 4; obtain ⟨Ao35, co35, eo35⟩ := Kd.R_slice HO169.out; subst eo35) | ((with_reducible refine gate_callee (f := 19) rfl ?_); refine goesL_ (some 55) rfl rfl Try.func19 (by kernel_rfl) rfl #[.slice Ao35 t167.length co35, .int .u64 a0_3] rfl (by (try simp only [List.map_toArray, List.map_cons, List.map_nil]); first | done | rfl | (simp only [List.length_drop, List.length_take]; rfl)) ?_; (with_reducible refine (thermographref09_Wide.calls kj11 (fun k_ => some k_ = (.slice Ao35 t167.length co35 : Value).ownBlock) (.slice Ao35 t167.length co35) t167 a0_3 t170 w _ ?side1 ?side2 A20.out).mono ?_); (case side1 => repeat (first | (with_reducible first | exact HB.out | apply below_alloc | apply pw_below_drewN | apply below_drew1 | refine below_set ?_ GE160.out) | exact HB.out)); (case side2 => exact Kd.R_tight rfl HO169.out); rintro e w36 ⟨v171, rfl, ho0, hb, hkp⟩; refine ⟨_, rfl, ?_⟩; have n0_ := Aside0.mk (blk_kept (by (with_reducible repeat (first | refine blk_drewN ?_ _ | refine blk_drew ?_ | refine blk_alloc ?_ _)); exact BK160.out) hkp (fun hs_ => (fun e_ => (Kd.R_ne HO169.out BK160.out (by decide)) e_) hs_)); have n1_ := Aside0.mk (Kd.R_mono (ok' := fun k_ => some k_ ≠ (.slice Ao32 t164.length co32 : Value).ownBlock ∧ some k_ ≠ (v171 : Value).ownBlock) (Kd.R_keptB (HO163.out) hkp (fun k_ hk_ hs_ => (hk_.2) hs_)) (fun k_ hk_ => ⟨hk_.1.1.2, fun e_ => Or.elim (ho0.1 k_ e_.symm) (fun hs_ => hk_.2.1 hs_) (fun hn_ => Nat.not_le.2 hk_.2.2 hn_)⟩)); have n2_ := Aside0.mk (Kd.R_mono (ok' := fun k_ => some k_ ≠ (.slice Ao29 t161.length co29 : Value).ownBlock ∧ some k_ ≠ (v171 : Value).ownBlock) (Kd.R_keptB (HO166.out) hkp (fun k_ hk_ hs_ => (hk_.2) hs_)) (fun k_ hk_ => ⟨hk_.1.1.2, fun e_ => Or.elim (ho0.1 k_ e_.symm) (fun hs_ => hk_.2.1 hs_) (fun hn_ => Nat.not_le.2 hk_.2.2 hn_)⟩)); have n3_ := Aside0.mk (Kd.R_mono (ok' := fun k_ => some k_ ≠ (.slice Ao29 t161.length co29 : Value).ownBlock ∧ some k_ ≠ (.slice Ao32 t164.length co32 : Value).ownBlock) ho0 (fun k_ hk_ => ⟨Or.elim hk_ (fun hs_ => fun e_ => (((HO163.out).1 k_ e_.symm).2) hs_) (fun hn_ => (Kd.fresh' (Kd.R_lt (by (with_reducible repeat (first | apply Kd.R_alloc | apply Kd.R_drewN | apply Kd.R_drew)); exact HO163.out)) k_ hn_)), Or.elim hk_ (fun hs_ => fun e_ => (((HO166.out).1 k_ e_.symm).2) hs_) (fun hn_ => (Kd.fresh' (Kd.R_lt (by (with_reducible repeat (first | apply Kd.R_alloc | apply Kd.R_drewN | apply Kd.R_drew)); exact HO166.out)) k_ hn_))⟩)); have n4_ := Aside0.mk (hb); clear BK160; clear HO163; clear HO166; clear HB; clear HO169; have BK160 := n0_; have HO163 := n1_; have HO166 := n2_; have HO172 := n3_; have HB := n4_; clear n0_ n1_ n2_ n3_ n4_; (try clear hb); (try clear hkp); (try clear ho0); have hcz37_0 : w36.cell? ⟨gb160, 0, none⟩ = some (.int .i64 a0_0) := (blk_cell BK160.out 0).trans rfl; have hcz37_1 : w36.cell? ⟨gb160, 1, none⟩ = some (.string a0_1) := (blk_cell BK160.out 1).trans rfl; have hcz37_2 : w36.cell? ⟨gb160, 2, none⟩ = some (.int .i64 a0_2) := (blk_cell BK160.out 2).trans rfl; have hcz37_3 : w36.cell? ⟨gb160, 3, none⟩ = some (.int .u64 a0_3) := (blk_cell BK160.out 3).trans rfl; have hcz37_4 : w36.cell? ⟨gb160, 4, none⟩ = some (.int .u64 a0_4) := (blk_cell BK160.out 4).trans rfl; have hfz37_0 := blk_frozen BK160.out 0; have hfz37_1 := blk_frozen BK160.out 1; have hfz37_2 := blk_frozen BK160.out 2; have hfz37_3 := blk_frozen BK160.out 3; have hfz37_4 := blk_frozen BK160.out 4; obtain ⟨Ao38, co38, eo38⟩ := Kd.R_slice HO172.out; subst eo38) | ((with_reducible refine gate_callee (f := 19) rfl ?_); refine goesL_ (some 60) rfl rfl Try.func19 (by kernel_rfl) rfl #[.slice Ao38 t170.length co38, .int .u64 a0_4] rfl (by (try simp only [List.map_toArray, List.map_cons, List.map_nil]); first | done | rfl | (simp only [List.length_drop, List.length_take]; rfl)) ?_; (with_reducible refine (thermographref09_Wide.calls kj11 (fun k_ => some k_ = (.slice Ao38 t170.length co38 : Value).ownBlock) (.slice Ao38 t170.length co38) t170 a0_4 t173 w _ ?side1 ?side2 A21.out).mono ?_); (case side1 => repeat (first | (with_reducible first | exact HB.out | apply below_alloc | apply pw_below_drewN | apply below_drew1 | refine below_set ?_ GE160.out) | exact HB.out)); (case side2 => exact Kd.R_tight rfl HO172.out); rintro e w39 ⟨v174, rfl, ho0, hb, hkp⟩; refine ⟨_, rfl, ?_⟩; have n0_ := Aside0.mk (blk_kept (by (with_reducible repeat (first | refine blk_drewN ?_ _ | refine blk_drew ?_ | refine blk_alloc ?_ _)); exact BK160.out) hkp (fun hs_ => (fun e_ => (Kd.R_ne HO172.out BK160.out (by decide)) e_) hs_)); have n1_ := Aside0.mk (Kd.R_mono (ok' := fun k_ => some k_ ≠ (.slice Ao32 t164.length co32 : Value).ownBlock ∧ some k_ ≠ (v174 : Value).ownBlock) (Kd.R_keptB (HO163.out) hkp (fun k_ hk_ hs_ => (hk_.2) hs_)) (fun k_ hk_ => ⟨hk_.1.1, fun e_ => Or.elim (ho0.1 k_ e_.symm) (fun hs_ => hk_.2.1 hs_) (fun hn_ => Nat.not_le.2 hk_.2.2 hn_)⟩)); have n2_ := Aside0.mk (Kd.R_mono (ok' := fun k_ => some k_ ≠ (.slice Ao29 t161.length co29 : Value).ownBlock ∧ some k_ ≠ (v174 : Value).ownBlock) (Kd.R_keptB (HO166.out) hkp (fun k_ hk_ hs_ => (hk_.2) hs_)) (fun k_ hk_ => ⟨hk_.1.1, fun e_ => Or.elim (ho0.1 k_ e_.symm) (fun hs_ => hk_.2.1 hs_) (fun hn_ => Nat.not_le.2 hk_.2.2 hn_)⟩)); have n3_ := Aside0.mk (Kd.R_mono (ok' := fun k_ => some k_ ≠ (.slice Ao29 t161.length co29 : Value).ownBlock ∧ some k_ ≠ (.slice Ao32 t164.length co32 : Value).ownBlock) ho0 (fun k_ hk_ => ⟨Or.elim hk_ (fun hs_ => fun e_ => (((HO163.out).1 k_ e_.symm).2) hs_) (fun hn_ => (Kd.fresh' (Kd.R_lt (by (with_reducible repeat (first | apply Kd.R_alloc | apply Kd.R_drewN | apply Kd.R_drew)); exact HO163.out)) k_ hn_)), Or.elim hk_ (fun hs_ => fun e_ => (((HO166.out).1 k_ e_.symm).2) hs_) (fun hn_ => (Kd.fresh' (Kd.R_lt (by (with_reducible repeat (first | apply Kd.R_alloc | apply Kd.R_drewN | apply Kd.R_drew)); exact HO166.out)) k_ hn_))⟩)); have n4_ := Aside0.mk (hb); clear BK160; clear HO163; clear HO166; clear HB; clear HO172; have BK160 := n0_; have HO163 := n1_; have HO166 := n2_; have HO175 := n3_; have HB := n4_; clear n0_ n1_ n2_ n3_ n4_; (try clear hb); (try clear hkp); (try clear ho0); obtain ⟨Ao40, co40, eo40⟩ := Kd.R_slice HO175.out; subst eo40) | ((with_reducible refine gate_callee (f := 20) rfl ?_); refine goesL_ (some 62) rfl rfl Try.func20 (by kernel_rfl) rfl #[.slice Ao40 t173.length co40] rfl (by (try simp only [List.map_toArray, List.map_cons, List.map_nil]); first | done | rfl | (simp only [List.length_drop, List.length_take]; rfl)) ?_; (with_reducible refine (thermographref04_Adler.calls kj11 _ _ t173 t176 _ ?side1 ?side2 A22.out).mono ?_); (case side1 => repeat (first | exact (Kd.R_reads' HO175.out).2.2 | (with_reducible refine Kd.C_alloc ?_ _) | (with_reducible refine Kd.C_drewN ?_ _) | (with_reducible refine Kd.C_drew ?_))); (case side2 => exact (Kd.R_reads' HO175.out).2.1); rintro e w' ⟨rfl, ⟨nd, rfl⟩⟩; refine ⟨_, rfl, ?_⟩) | ((with_reducible refine gate_callee (f := 17) rfl ?_); refine goesL_ (some 66) rfl rfl Try.func17 (by kernel_rfl) rfl #[.slice none 0 0, .int .u64 (IntKind.u64.wrap ((t173.length : Int)))] rfl (by (try simp only [List.map_toArray, List.map_cons, List.map_nil]); first | done | rfl | (simp only [List.length_drop, List.length_take]; rfl)) ?_; (refine (thermographref03_Uvarint.calls kj11 _ _ ([] : List Int) (IntKind.u64.wrap ((t173.length : Int))) t177 _ ?side1 ?side2 A23.out).mono ?_); (case side1 => exact Kd.C_nil _ _); (case side2 => exact Nat.le_refl _); rintro e w41 ⟨v178, rfl, ho0, hb⟩; refine ⟨_, rfl, ?_⟩; have n0_ := Aside0.mk (Kd.R_elder' (by (with_reducible repeat (first | apply Kd.R_alloc | apply Kd.R_drewN | apply Kd.R_drew)); exact HO163.out) (Kd.R_base ho0) hb); have n1_ := Aside0.mk (Kd.R_elder' (by (with_reducible repeat (first | apply Kd.R_alloc | apply Kd.R_drewN | apply Kd.R_drew)); exact HO166.out) (Kd.R_base ho0) hb); have n2_ := Aside0.mk (Kd.R_elder' (by (with_reducible repeat (first | apply Kd.R_alloc | apply Kd.R_drewN | apply Kd.R_drew)); exact HO175.out) (Kd.R_base ho0) hb); have n3_ := Aside0.mk (Kd.R_lower (Kd.R_new' (Kd.R_new' (Kd.R_new' ho0 (Kd.R_lt (by (with_reducible repeat (first | apply Kd.R_alloc | apply Kd.R_drewN | apply Kd.R_drew)); exact HO163.out))) (Kd.R_lt (by (with_reducible repeat (first | apply Kd.R_alloc | apply Kd.R_drewN | apply Kd.R_drew)); exact HO166.out))) (Kd.R_lt (by (with_reducible repeat (first | apply Kd.R_alloc | apply Kd.R_drewN | apply Kd.R_drew)); exact HO175.out))) (below_size (by repeat (first | (with_reducible first | exact HB.out | apply below_alloc | apply pw_below_drewN | apply below_drew1 | refine below_set ?_ GE160.out) | exact HB.out)))); have n4_ := Aside0.mk (blk_below (g := gb160) (o := .cells #[.int .i64 a0_0, .string a0_1, .int .i64 a0_2, .int .u64 a0_3, .int .u64 a0_4] 32 (0, 0)) (by (with_reducible repeat (first | refine blk_drewN ?_ _ | refine blk_drew ?_ | refine blk_alloc ?_ _)); exact BK160.out) hb); have n5_ := Aside0.mk (below_step (by repeat (first | (with_reducible first | exact HB.out | apply below_alloc | apply pw_below_drewN | apply below_drew1 | refine below_set ?_ GE160.out) | exact HB.out)) hb); clear HO163; clear HO166; clear HO175; clear BK160; clear HB; have HO163 := n0_; have HO166 := n1_; have HO175 := n2_; have HO179 := n3_; have BK160 := n4_; have HB := n5_; clear n0_ n1_ n2_ n3_ n4_ n5_; (try clear hb); (try clear hb2); (try clear hk); (try clear hi); (try clear ho0)) | ((with_reducible refine gate_dst (N := 79) rfl ?_); (try (refine gate_guard (by rfl) ?_; dsimp only)); refine Kd.R_lit (Kd.int .u8) _ 5 ?hg (N := 79) ?hd (xs := ([(t176 / 16777216) % 256, (t176 / 65536) % 256, (t176 / 256) % 256, (t176) % 256] : List Int)) (inner := [.int .u8 ((t176 / 16777216) % 256), .int .u8 ((t176 / 65536) % 256), .int .u8 ((t176 / 256) % 256), .int .u8 ((t176) % 256)]) (ok := fun _ => True) (okp := fun _ => True) ?hr ?hp (fun _ hk => hk) trivial (Below.refl _ _) (Nat.le_refl _) (by simp) ?_; (case hd => rfl); (case hg => rfl); (case hr => first | (go_simp; done) | (go_simp; rfl)); (case hp => exact (Reps.one (show Kd.M (Kd.int .u8) _ _ _ ((t176 / 16777216) % 256) [.int .u8 ((t176 / 16777216) % 256)] from rfl) (Reps.one (show Kd.M (Kd.int .u8) _ _ _ ((t176 / 65536) % 256) [.int .u8 ((t176 / 65536) % 256)] from rfl) (Reps.one (show Kd.M (Kd.int .u8) _ _ _ ((t176 / 256) % 256) [.int .u8 ((t176 / 256) % 256)] from rfl) (Reps.one (show Kd.M (Kd.int .u8) _ _ _ ((t176) % 256) [.int .u8 ((t176) % 256)] from rfl) (Reps.none _ _)))))); intro v181 w42 ho43 hb hg_ hnew_; clear hg_ hnew_; (first | rw [← Ny180.out] at ho43 | (simp only [Int.reduceToNat] at ho43; rw [← Ny180.out] at ho43)); have n0_ := Aside0.mk (Kd.R_elder' (by (with_reducible repeat (first | apply Kd.R_alloc | apply Kd.R_drewN | apply Kd.R_drew)); exact HO163.out) (Kd.R_base ho43) hb); have n1_ := Aside0.mk (Kd.R_elder' (by (with_reducible repeat (first | apply Kd.R_alloc | apply Kd.R_drewN | apply Kd.R_drew)); exact HO166.out) (Kd.R_base ho43) hb); have n2_ := Aside0.mk (Kd.R_elder' (by (with_reducible repeat (first | apply Kd.R_alloc | apply Kd.R_drewN | apply Kd.R_drew)); exact HO175.out) (Kd.R_base ho43) hb); have n3_ := Aside0.mk (Kd.R_elder' (by (with_reducible repeat (first | apply Kd.R_alloc | apply Kd.R_drewN | apply Kd.R_drew)); exact HO179.out) (Kd.R_base ho43) hb); have n4_ := Aside0.mk (Kd.R_lower (Kd.R_new' (Kd.R_new' (Kd.R_new' (Kd.R_new' ho43 (Kd.R_lt (by (with_reducible repeat (first | apply Kd.R_alloc | apply Kd.R_drewN | apply Kd.R_drew)); exact HO163.out))) (Kd.R_lt (by (with_reducible repeat (first | apply Kd.R_alloc | apply Kd.R_drewN | apply Kd.R_drew)); exact HO166.out))) (Kd.R_lt (by (with_reducible repeat (first | apply Kd.R_alloc | apply Kd.R_drewN | apply Kd.R_drew)); exact HO175.out))) (Kd.R_lt (by (with_reducible repeat (first | apply Kd.R_alloc | apply Kd.R_drewN | apply Kd.R_drew)); exact HO179.out))) (below_size (by repeat (first | (with_reducible first | exact HB.out | apply below_alloc | apply pw_below_drewN | apply below_drew1 | refine below_set ?_ GE160.out) | exact HB.out)))); have n5_ := Aside0.mk (blk_below (g := gb160) (o := .cells #[.int .i64 a0_0, .string a0_1, .int .i64 a0_2, .int .u64 a0_3, .int .u64 a0_4] 32 (0, 0)) (by (with_reducible repeat (first | refine blk_drewN ?_ _ | refine blk_drew ?_ | refine blk_alloc ?_ _)); exact BK160.out) hb); have n6_ := Aside0.mk (below_step (by repeat (first | (with_reducible first | exact HB.out | apply below_alloc | apply pw_below_drewN | apply below_drew1 | refine below_set ?_ GE160.out) | exact HB.out)) hb); clear HO163; clear HO166; clear HO175; clear HO179; clear BK160; clear HB; have HO163 := n0_; have HO166 := n1_; have HO175 := n2_; have HO179 := n3_; have HO182 := n4_; have BK160 := n5_; have HB := n6_; clear n0_ n1_ n2_ n3_ n4_ n5_ n6_; clear hb ho43; obtain ⟨Ao45, co45, eo45⟩ := Kd.R_slice HO182.out; subst eo45) | ((with_reducible refine gate_builtin (b := .append) (xs := #[.tmp 67, .tmp 79]) rfl ?_); (try (refine gate_guard (by rfl) ?_; dsimp only)); at_builtin; refine Kd.R_append_rows (Kd.int .u8) (w0 := w) w.heap.size rfl (.tmp 67) (.tmp 79) 22 5 (.int .u8 0) 1 rfl Try.underlying22 info5 rfl (by decide) (by omega) v178 t177 y180 _ _ _ (fun k_ => some k_ ≠ (.slice Ao29 t161.length co29 : Value).ownBlock ∧ some k_ ≠ (.slice Ao32 t164.length co32 : Value).ownBlock ∧ some k_ ≠ (.slice Ao40 t173.length co40 : Value).ownBlock ∧ some k_ ≠ (.slice Ao45 y180.length co45 : Value).ownBlock) (fun _ => False) rfl rfl ?aO ?aR (fun _ _ h => h) (fun _ h => h.elim) ?aF ?aB ?aS ?aL ?_; (case aR => repeat (first | exact (Kd.R_reads' HO182.out).2.2 | (with_reducible refine Kd.C_alloc ?_ _) | (with_reducible refine Kd.C_drewN ?_ _) | (with_reducible refine Kd.C_drew ?_))); (case aB => exact (by repeat (first | (with_reducible first | exact HB.out | apply below_alloc | apply pw_below_drewN | apply below_drew1 | refine below_set ?_ GE160.out) | exact HB.out))); (case aF => exact (fun k_ hk => ⟨Kd.fresh' (Kd.R_lt (by (with_reducible repeat (first | apply Kd.R_alloc | apply Kd.R_drewN | apply Kd.R_drew)); exact HO163.out)) k_ hk, Kd.fresh' (Kd.R_lt (by (with_reducible repeat (first | apply Kd.R_alloc | apply Kd.R_drewN | apply Kd.R_drew)); exact HO166.out)) k_ hk, Kd.fresh' (Kd.R_lt (by (with_reducible repeat (first | apply Kd.R_alloc | apply Kd.R_drewN | apply Kd.R_drew)); exact HO175.out)) k_ hk, Kd.fresh' (Kd.R_lt (by (with_reducible repeat (first | apply Kd.R_alloc | apply Kd.R_drewN | apply Kd.R_drew)); exact HO182.out)) k_ hk⟩)); (case aO => exact (by (with_reducible repeat (first | apply Kd.R_alloc | apply Kd.R_drewN | apply Kd.R_drew)); exact Kd.R_mono HO179.out (fun _ hk => ⟨hk.1.1.1.2, ⟨hk.1.1.2, ⟨hk.1.2, hk.2⟩⟩⟩))); (case aS => exact (below_size (by repeat (first | (with_reducible first | exact HB.out | apply below_alloc | apply pw_below_drewN | apply below_drew1 | refine below_set ?_ GE160.out) | exact HB.out)))); (case aL => have := LMc24.out; omega); intro v184 w44 ho hb hg hat; rw [← Ny183.out] at ho; have n0_ := Aside0.mk (blk_grown (g := gb160) (o := .cells #[.int .i64 a0_0, .string a0_1, .int .i64 a0_2, .int .u64 a0_3, .int .u64 a0_4] 32 (0, 0)) (by (with_reducible repeat (first | refine blk_drewN ?_ _ | refine blk_drew ?_ | refine blk_alloc ?_ _)); exact BK160.out) hg (Kd.R_ne HO179.out BK160.out (by decide))); have n1_ := Aside0.mk (Kd.R_after (ok := (fun k_ => some k_ ≠ (.slice Ao32 t164.length co32 : Value).ownBlock ∧ some k_ ≠ (.slice Ao40 t173.length co40 : Value).ownBlock ∧ some k_ ≠ (.slice Ao45 y180.length co45 : Value).ownBlock)) (by (with_reducible repeat (first | apply Kd.R_alloc | apply Kd.R_drewN | apply Kd.R_drew)); exact Kd.R_mono HO163.out (fun _ hk => ⟨⟨hk.1.1.1, ⟨hk.1.1.2, hk.2⟩⟩, hk.1.2⟩)) hg hat); have n2_ := Aside0.mk (Kd.R_after (ok := (fun k_ => some k_ ≠ (.slice Ao29 t161.length co29 : Value).ownBlock ∧ some k_ ≠ (.slice Ao40 t173.length co40 : Value).ownBlock ∧ some k_ ≠ (.slice Ao45 y180.length co45 : Value).ownBlock)) (by (with_reducible repeat (first | apply Kd.R_alloc | apply Kd.R_drewN | apply Kd.R_drew)); exact Kd.R_mono HO166.out (fun _ hk => ⟨⟨hk.1.1.1, ⟨hk.1.1.2, hk.2⟩⟩, hk.1.2⟩)) hg hat); have n3_ := Aside0.mk (Kd.R_after (ok := (fun k_ => some k_ ≠ (.slice Ao29 t161.length co29 : Value).ownBlock ∧ some k_ ≠ (.slice Ao32 t164.length co32 : Value).ownBlock ∧ some k_ ≠ (.slice Ao45 y180.length co45 : Value).ownBlock)) (by (with_reducible repeat (first | apply Kd.R_alloc | apply Kd.R_drewN | apply Kd.R_drew)); exact Kd.R_mono HO175.out (fun _ hk => ⟨⟨hk.1.1.1, ⟨hk.1.1.2, hk.2⟩⟩, hk.1.2⟩)) hg hat); have n4_ := Aside0.mk (Kd.R_after (ok := (fun k_ => some k_ ≠ (.slice Ao29 t161.length co29 : Value).ownBlock ∧ some k_ ≠ (.slice Ao32 t164.length co32 : Value).ownBlock ∧ some k_ ≠ (.slice Ao40 t173.length co40 : Value).ownBlock)) (by (with_reducible repeat (first | apply Kd.R_alloc | apply Kd.R_drewN | apply Kd.R_drew)); exact Kd.R_mono HO182.out (fun _ hk => ⟨⟨hk.1.1.1.2, ⟨hk.1.1.2, hk.1.2⟩⟩, hk.2⟩)) hg hat); have n5_ := Aside0.mk (hb); have n6_ := Aside0.mk (ho); clear BK160; clear HO163; clear HO166; clear HO175; clear HO182; clear HB; clear HO179; have BK160 := n0_; have HO163 := n1_; have HO166 := n2_; have HO175 := n3_; have HO182 := n4_; have HB := n5_; have HO185 := n6_; clear n0_ n1_ n2_ n3_ n4_ n5_ n6_; clear ho hb hg hat) | ((with_reducible refine gate_builtin (b := .append) (xs := #[.tmp 81, .tmp 82]) rfl ?_); (try (refine gate_guard (by rfl) ?_; dsimp only)); at_builtin; refine Kd.R_append_rows (Kd.int .u8) (w0 := w) w.heap.size rfl (.tmp 81) (.tmp 82) 22 5 (.int .u8 0) 1 rfl Try.underlying22 info5 rfl (by decide) (by omega) v184 y183 t173 _ _ _ (fun k_ => some k_ ≠ (.slice Ao29 t161.length co29 : Value).ownBlock ∧ some k_ ≠ (.slice Ao32 t164.length co32 : Value).ownBlock ∧ some k_ ≠ (.slice Ao40 t173.length co40 : Value).ownBlock ∧ some k_ ≠ (.slice Ao45 y180.length co45 : Value).ownBlock) (fun _ => False) rfl rfl ?aO ?aR (fun _ _ h => h) (fun _ h => h.elim) ?aF ?aB ?aS ?aL ?_; (case aR => repeat (first | exact (Kd.R_reads' HO175.out).2.2 | (with_reducible refine Kd.C_alloc ?_ _) | (with_reducible refine Kd.C_drewN ?_ _) | (with_reducible refine Kd.C_drew ?_))); (case aB => exact (by repeat (first | (with_reducible first | exact HB.out | apply below_alloc | apply pw_below_drewN | apply below_drew1 | refine below_set ?_ GE160.out) | exact HB.out))); (case aF => exact (fun k_ hk => ⟨Kd.fresh' (Kd.R_lt (by (with_reducible repeat (first | apply Kd.R_alloc | apply Kd.R_drewN | apply Kd.R_drew)); exact HO163.out)) k_ hk, Kd.fresh' (Kd.R_lt (by (with_reducible repeat (first | apply Kd.R_alloc | apply Kd.R_drewN | apply Kd.R_drew)); exact HO166.out)) k_ hk, Kd.fresh' (Kd.R_lt (by (with_reducible repeat (first | apply Kd.R_alloc | apply Kd.R_drewN | apply Kd.R_drew)); exact HO175.out)) k_ hk, Kd.fresh' (Kd.R_lt (by (with_reducible repeat (first | apply Kd.R_alloc | apply Kd.R_drewN | apply Kd.R_drew)); exact HO182.out)) k_ hk⟩)); (case aO => exact (by (with_reducible repeat (first | apply Kd.R_alloc | apply Kd.R_drewN | apply Kd.R_drew)); exact HO185.out)); (case aS => exact (below_size (by repeat (first | (with_reducible first | exact HB.out | apply below_alloc | apply pw_below_drewN | apply below_drew1 | refine below_set ?_ GE160.out) | exact HB.out)))); (case aL => have := LMc25.out; omega); intro v187 w46 ho hb hg hat; rw [← Ny186.out] at ho; have n0_ := Aside0.mk (blk_grown (g := gb160) (o := .cells #[.int .i64 a0_0, .string a0_1, .int .i64 a0_2, .int .u64 a0_3, .int .u64 a0_4] 32 (0, 0)) (by (with_reducible repeat (first | refine blk_drewN ?_ _ | refine blk_drew ?_ | refine blk_alloc ?_ _)); exact BK160.out) hg (Kd.R_ne HO185.out BK160.out (by decide))); have n1_ := Aside0.mk (Kd.R_after (ok := (fun k_ => some k_ ≠ (.slice Ao32 t164.length co32 : Value).ownBlock ∧ some k_ ≠ (.slice Ao40 t173.length co40 : Value).ownBlock ∧ some k_ ≠ (.slice Ao45 y180.length co45 : Value).ownBlock)) (by (with_reducible repeat (first | apply Kd.R_alloc | apply Kd.R_drewN | apply Kd.R_drew)); exact HO163.out) hg hat); have n2_ := Aside0.mk (Kd.R_after (ok := (fun k_ => some k_ ≠ (.slice Ao29 t161.length co29 : Value).ownBlock ∧ some k_ ≠ (.slice Ao40 t173.length co40 : Value).ownBlock ∧ some k_ ≠ (.slice Ao45 y180.length co45 : Value).ownBlock)) (by (with_reducible repeat (first | apply Kd.R_alloc | apply Kd.R_drewN | apply Kd.R_drew)); exact HO166.out) hg hat); have n3_ := Aside0.mk (Kd.R_after (ok := (fun k_ => some k_ ≠ (.slice Ao29 t161.length co29 : Value).ownBlock ∧ some k_ ≠ (.slice Ao32 t164.length co32 : Value).ownBlock ∧ some k_ ≠ (.slice Ao45 y180.length co45 : Value).ownBlock)) (by (with_reducible repeat (first | apply Kd.R_alloc | apply Kd.R_drewN | apply Kd.R_drew)); exact HO175.out) hg hat); have n4_ := Aside0.mk (Kd.R_after (ok := (fun k_ => some k_ ≠ (.slice Ao29 t161.length co29 : Value).ownBlock ∧ some k_ ≠ (.slice Ao32 t164.length co32 : Value).ownBlock ∧ some k_ ≠ (.slice Ao40 t173.length co40 : Value).ownBlock)) (by (with_reducible repeat (first | apply Kd.R_alloc | apply Kd.R_drewN | apply Kd.R_drew)); exact HO182.out) hg hat); have n5_ := Aside0.mk (hb); have n6_ := Aside0.mk (ho); clear BK160; clear HO163; clear HO166; clear HO175; clear HO182; clear HB; clear HO185; have BK160 := n0_; have HO163 := n1_; have HO166 := n2_; have HO175 := n3_; have HO182 := n4_; have HB := n5_; have HO188 := n6_; clear n0_ n1_ n2_ n3_ n4_ n5_ n6_; clear ho hb hg hat))
                  go_ret2
                  exact ⟨_, by first | rfl | (simp [errW_none, errW_some] <;> rfl) | (simp [*, errW_none, errW_some] <;> rfl), by (with_reducible repeat (first | apply Kd.R_alloc | apply Kd.R_drewN | apply Kd.R_drew)); exact Kd.R_mono HO188.out (fun _ hk => trivial), by repeat (first | (with_reducible first | exact HB.out | apply below_alloc | apply pw_below_drewN | apply below_drew1 | refine below_set ?_ GE160.out) | exact HB.out)⟩
                · rw [if_neg c25] at H
                  exact absurd H (by simp)
              · rw [if_neg c24] at H
                exact absurd H (by simp)

end Go.Proofs.Ytnkcdopjhjmdnaa.QB
