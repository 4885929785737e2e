/- What functions of the translation come to, each as a Lean function, and a proof that the call comes to just that; or a law's row, out of its plain law. Written by mp.py, a program of this session, which runs the printer of the kit with stand-in bodies for some library functions.
   A placement in plain words: which one is right, as the program asks it. -/
import Derived.Test.YtmdebnfjhnhcjaaZPlacementEven0
import Derived.Test.YtmdebnfjhnhcjaaZPlacementEven1
namespace Go.Proofs.Ytmdebnfjhnhcjaa.QB
open Go.RowKit Go.Proofs.YtmdebnfjhnhcjaaW.PrintWords Go.Proofs.YtmdebnfjhnhcjaaW.PrintLast Go.Proofs.YtmdebnfjhnhcjaaW.PrintMore
attribute [local go_sem] max2_int min2_int max_two min_two max_three min_three max_four min_four   -- for this text's walks alone
set_option linter.unusedVariables false
set_option linter.unusedSimpArgs false

/-! ### placement_isNode: function 33 -/
def placement_isNode.f (a0 : Int) : Option (Bool) := if 0 ≤ a0 then (some (decide (a0 < 8))) else (some false)
set_option maxHeartbeats 8000000 in
set_option maxRecDepth 100000 in
theorem placement_isNode.calls (a0 : Int) (r : Bool) (w : World) (h : placement_isNode.f a0 = some r) :
    Calls Try.prog 33 #[.int .i64 a0] w fun e w' => e = .returned (.bool r) ∧ Drawn0 w w' := by
  have H : (if 0 ≤ a0 then (some (decide (a0 < 8))) else (some false)) = some r := h
  clear h
  by_cases c2 : 0 ≤ a0
  · rw [if_pos c2] at H
    have c2b0 : decide (0 ≤ a0) = true := decide_eq_true c2
    clear c2
    obtain rfl := Option.some.inj H
    go_enter Try.func33, Try.ntmps33
    go_wp2
    go_ret
    exact ⟨by first | rfl | (simp; done) | (simp [*]; done), by repeat (first | exact Drawn0.refl _ | apply Drawn0.step)⟩
  · rw [if_neg c2] at H
    have c2b0 : decide (0 ≤ a0) = false := decide_eq_false c2
    clear c2
    obtain rfl := Option.some.inj H
    go_enter Try.func33, Try.ntmps33
    go_wp2
    go_ret
    exact ⟨by first | rfl | (simp; done) | (simp [*]; done), by repeat (first | exact Drawn0.refl _ | apply Drawn0.step)⟩

-- NOT PRINTED: function 82 (api_Owner_82)

-- NOT PRINTED: function 56 (api_Owner_56)

-- NOT PRINTED: function 44 (placement_change)

/-! ### slices_Index_int_int: function 64 -/
def slices_Index_int_int.l0 : Nat → List Int → Int → Int → Int → Option (Int)
  | 0, _, _, _, _ => none
  | k + 1, x0, x1, x7, x8 => if x8 < x7 then (if 0 ≤ x8 then (if x8 < (x0.length : Int) then (if x1 = (rd x0 x8) then (some x8) else (slices_Index_int_int.l0 k x0 x1 x7 (wrap64 (x8 + 1)))) else (none)) else (none)) else (some (-1))
def slices_Index_int_int.f (k : Nat) (l0 : List Int) (a1 : Int) : Option (Int) := slices_Index_int_int.l0 k l0 a1 (l0.length : Int) 0
theorem slices_Index_int_int.mono_l : ∀ k, (∀ y0 y1 y2 y3, LeO (slices_Index_int_int.l0 k y0 y1 y2 y3) (slices_Index_int_int.l0 (k + 1) y0 y1 y2 y3))
  | 0 => fun _ _ _ _ r h => by simp [slices_Index_int_int.l0] at h
  | k + 1 => by
    have ih0 := slices_Index_int_int.mono_l k
    · intro y0 y1 y2 y3
      unfold slices_Index_int_int.l0
      repeat' first
      | (with_reducible exact ih0 _ _ _ _)
      | (with_reducible exact LeO.refl _)
      | (with_reducible exact LeO.none _)
      | (with_reducible refine LeO.ite ?_ ?_)
      | (with_reducible refine LeO.bind ?_ (fun _ => ?_))
      | exact ih0 _ _ _ _
      | exact LeO.none _
      | refine LeO.ite ?_ ?_
      | refine LeO.bind ?_ (fun _ => ?_)
theorem slices_Index_int_int.mono : ∀ a0 a1 k, LeO (slices_Index_int_int.f k a0 a1) (slices_Index_int_int.f (k + 1) a0 a1) := by
  intro a0 a1 k
  have ih0 := slices_Index_int_int.mono_l k
  unfold slices_Index_int_int.f
  repeat' first
      | (with_reducible exact ih0 _ _ _ _)
      | (with_reducible exact LeO.refl _)
      | (with_reducible exact LeO.none _)
      | (with_reducible refine LeO.ite ?_ ?_)
      | (with_reducible refine LeO.bind ?_ (fun _ => ?_))
      | exact ih0 _ _ _ _
      | exact LeO.none _
      | refine LeO.ite ?_ ?_
      | refine LeO.bind ?_ (fun _ => ?_)
set_option maxHeartbeats 8000000 in
set_option maxRecDepth 100000 in
theorem slices_Index_int_int.calls (k : Nat) (A0 : Option Addr) (c0 : Nat) (l0 : List Int) (a1 : Int) (r : Int) (w : World) (hr0 : Kd.C (Kd.int .i64) w A0 l0.length l0) (hc0 : l0.length ≤ c0) (h : slices_Index_int_int.f k l0 a1 = some r) :
    Calls Try.prog 64 #[.slice A0 l0.length c0, .int .i64 a1] w fun e w' => e = .returned (.int .i64 r) ∧ Drawn0 w w' := by
  have HR0 := Aside0.mk hr0
  have HC0 := Aside0.mk hc0
  clear hr0 hc0
  have H : (slices_Index_int_int.l0 k l0 a1 (l0.length : Int) 0) = some r := h
  clear h
  have H' := Aside0.mk H
  clear H
  go_enter Try.func64, Try.ntmps64
  go_wp2
  go_loopg [8] k (fun kq v8 w' => ∃ (x8_1 : Int), v8 = .int .i64 x8_1 ∧ Aside0 (slices_Index_int_int.l0 kq l0 a1 (l0.length : Int) x8_1 = some r) ∧ Aside0 (kq ≤ k) ∧ Drawn0 w w')
  case atStart => exact ⟨(0), (by first | rfl | (simp; done) | (simp [*]; done)), H', ⟨Nat.le_refl _⟩, by repeat (first | exact Drawn0.refl _ | apply Drawn0.step)⟩
  case round =>
    clear H'
    try clear p2
    obtain ⟨x8_1, rfl, HA, HK1, ⟨m1, rfl⟩⟩ := hrel
    cases gk with
    | zero => exact absurd HA.out (by simp [slices_Index_int_int.l0])
    | succ k1 =>
      have H := HA.out
      clear HA
      simp only [slices_Index_int_int.l0] at H
      by_cases c3 : x8_1 < (l0.length : Int)
      · rw [if_pos c3] at H
        have c3b0 : decide (x8_1 < (l0.length : Int)) = true := decide_eq_true c3
        clear c3
        by_cases c4 : 0 ≤ x8_1
        · rw [if_pos c4] at H
          have c4b0 : decide (0 ≤ x8_1) = true := decide_eq_true c4
          clear c4
          by_cases c5 : x8_1 < (l0.length : Int)
          · rw [if_pos c5] at H
            have c5b0 : decide (x8_1 < (l0.length : Int)) = true := decide_eq_true c5
            clear c5
            by_cases c6 : a1 = (rd l0 x8_1)
            · rw [if_pos c6] at H
              have c6b0 : (a1 == (rd l0 x8_1)) = true := beq_iff_eq.mpr c6
              have c6b1 : (a1 != (rd l0 x8_1)) = false := bne_eq_false_iff_eq.mpr c6
              clear c6
              obtain rfl := Option.some.inj H
              have p389 : 0 ≤ (x8_1 : Int) := of_decide_eq_true (by first | (with_reducible assumption) | assumption)
              have q389 : x8_1 < (l0.length : Int) := of_decide_eq_true (by first | (with_reducible assumption) | assumption)
              obtain ⟨ad389, e389, hx389_0⟩ := Kd.at_int HR0.out x8_1 p389 q389
              cases e389
              replace p389 := eq_true p389
              replace q389 := eq_true q389
              go_wp2
              go_ret
              exact ⟨by first | rfl | (simp; done) | (simp [*]; done), by repeat (first | exact Drawn0.refl _ | apply Drawn0.step)⟩
            · rw [if_neg c6] at H
              have c6b0 : (a1 == (rd l0 x8_1)) = false := beq_eq_false_iff_ne.mpr c6
              have c6b1 : (a1 != (rd l0 x8_1)) = true := bne_iff_ne.mpr c6
              have H' := Aside0.mk H
              clear H
              have p389 : 0 ≤ (x8_1 : Int) := of_decide_eq_true (by first | (with_reducible assumption) | assumption)
              have q389 : x8_1 < (l0.length : Int) := of_decide_eq_true (by first | (with_reducible assumption) | assumption)
              obtain ⟨ad389, e389, hx389_0⟩ := Kd.at_int HR0.out x8_1 p389 q389
              cases e389
              replace p389 := eq_true p389
              replace q389 := eq_true q389
              go_wp2
              go_roundg k1
              case measure => have := HK1.out; omega
              case rel => exact ⟨(wrap64 (x8_1 + 1)), (by first | rfl | (simp; done) | (simp [*]; done)), H', ⟨by have := HK1.out; omega⟩, by repeat (first | exact Drawn0.refl _ | apply Drawn0.step)⟩
          · rw [if_neg c5] at H
            exact absurd H (by simp)
        · rw [if_neg c4] at H
          exact absurd H (by simp)
      · rw [if_neg c3] at H
        have c3b0 : decide (x8_1 < (l0.length : Int)) = false := decide_eq_false c3
        clear c3
        obtain rfl := Option.some.inj H
        go_wp2
        go_ret
        exact ⟨by first | rfl | (simp; done) | (simp [*]; done), by repeat (first | exact Drawn0.refl _ | apply Drawn0.step)⟩

/-! ### slices_Contains_int_int: function 45 -/
def slices_Contains_int_int.f (k : Nat) (l0 : List Int) (a1 : Int) : Option (Bool) := (slices_Index_int_int.f k l0 a1).bind fun t390 => (some (decide (t390 ≥ 0)))
theorem slices_Contains_int_int.mono : ∀ a0 a1 k, LeO (slices_Contains_int_int.f k a0 a1) (slices_Contains_int_int.f (k + 1) a0 a1) := by
  intro a0 a1 k
  unfold slices_Contains_int_int.f
  repeat' first
      | (with_reducible exact slices_Index_int_int.mono _ _ _)
      | (with_reducible exact LeO.refl _)
      | (with_reducible exact LeO.none _)
      | (with_reducible refine LeO.ite ?_ ?_)
      | (with_reducible refine LeO.bind ?_ (fun _ => ?_))
      | exact slices_Index_int_int.mono _ _ _
      | exact LeO.none _
      | refine LeO.ite ?_ ?_
      | refine LeO.bind ?_ (fun _ => ?_)
set_option maxHeartbeats 8000000 in
set_option maxRecDepth 100000 in
theorem slices_Contains_int_int.calls (k : Nat) (A0 : Option Addr) (c0 : Nat) (l0 : List Int) (a1 : Int) (r : Bool) (w : World) (hr0 : Kd.C (Kd.int .i64) w A0 l0.length l0) (hc0 : l0.length ≤ c0) (h : slices_Contains_int_int.f k l0 a1 = some r) :
    Calls Try.prog 45 #[.slice A0 l0.length c0, .int .i64 a1] w fun e w' => e = .returned (.bool r) ∧ Drawn0 w w' := by
  have HR0 := Aside0.mk hr0
  have HC0 := Aside0.mk hc0
  clear hr0 hc0
  have H : ((slices_Index_int_int.f k l0 a1).bind fun t390 => (some (decide (t390 ≥ 0)))) = some r := h
  clear h
  replace H := Option.bind_eq_some_iff.mp H
  obtain ⟨t390, A30, H⟩ := H
  replace H : (some (decide (t390 ≥ 0))) = some r := H
  have A3 := Aside0.mk A30
  clear A30
  obtain rfl := Option.some.inj H
  go_enter Try.func45, Try.ntmps45
  go_wp2_with (first | ((with_reducible refine gate_callee (f := 64) rfl ?_); refine goesL_ (some 7) rfl rfl Try.func64 (by kernel_rfl) rfl #[.slice A0 l0.length c0, .int .i64 a1] rfl (by (try simp only [List.map_toArray, List.map_cons, List.map_nil]); first | done | rfl | (simp only [List.length_drop, List.length_take]; rfl)) ?_; (with_reducible refine (slices_Index_int_int.calls k _ _ l0 a1 t390 _ ?side1 ?side2 A3.out).mono ?_); (case side1 => repeat (first | exact HR0.out | (with_reducible refine Kd.C_alloc ?_ _) | (with_reducible refine Kd.C_drewN ?_ _) | (with_reducible refine Kd.C_drew ?_))); (case side2 => exact HC0.out); rintro e w' ⟨rfl, ⟨nd, rfl⟩⟩; refine ⟨_, rfl, ?_⟩))
  go_ret
  exact ⟨by first | rfl | (simp; done) | (simp [*]; done), by repeat (first | exact Drawn0.refl _ | apply Drawn0.step)⟩

-- NOT PRINTED: function 46 (placement_of)

-- NOT PRINTED: function 47 (placement_maker_giver)

-- NOT PRINTED: function 48 (placement_maker_move)

-- NOT PRINTED: function 49 (placement_maker_told)

end Go.Proofs.Ytmdebnfjhnhcjaa.QB
namespace Go.Proofs.Ytmdebnfjhnhcjaa.PlS
open Go.RowKit Go.Proofs.YtmdebnfjhnhcjaaW.PrintWords Go.Proofs.YtmdebnfjhnhcjaaW.PrintLast Go.Proofs.YtmdebnfjhnhcjaaW.PrintMore Go.Proofs.Ytmdebnfjhnhcjaa.QB Go.Proofs.Ytmdebnfjhnhcjaa.PlI
set_option linter.unusedVariables false
set_option linter.unusedSimpArgs false
abbrev zO : Ow := z41
def nodeB (n : Int) : Bool := decide (0 ≤ n ∧ n < 8)
def at_ (l : List Ow) (i : Nat) : Ow := l.getD i zO
def rise (l : List Ow) (i : Nat) : Bool := decide (i = 0 ∨ (at_ l (i - 1)).f0 < (at_ l i).f0)
def src (l : List Ow) (x : Ow) : Bool := decide (0 ≤ ix (fun y => y.f0 == x.f2) l) && ((l.getD (ix (fun y => y.f0 == x.f2) l).toNat zO).f1 == 3)
def good2 (l : List Ow) (x : Ow) : Bool := if x.f1 = 1 then src l x else if x.f1 = 2 ∨ x.f1 = 3 then x.f2 == -1 else false
def good3 (ns : List Int) (x : Ow) : Bool := x.f1 == 3 || decide (x.f0 ∈ ns)
def good (ns : List Int) (l : List Ow) (i : Nat) : Bool := nodeB (at_ l i).f0 && rise l i && good2 l (at_ l i) && good3 ns (at_ l i)
def hrs (l : List Ow) : List Int := (l.filter fun x => x.f1 == 1).map (·.f2)
def stay (l : List Ow) : Nat := (l.filter fun x => !(x.f1 == 3)).length
def heir (l : List Ow) (x : Ow) : Bool := !(x.f1 == 3) || ((hrs l).count x.f0 == 1)
def rightB (ns : List Int) (l : List Ow) : Bool := (List.range l.length).all (good ns l) && l.all (heir l) && (stay l == 3)
theorem take_snoc {l : List Ow} {i : Nat} (h : i < l.length) : l.take (i + 1) = l.take i ++ [at_ l i] := by
  rw [List.take_add_one, List.getElem?_eq_getElem h]
  unfold at_
  rw [List.getD_eq_getElem?_getD, List.getElem?_eq_getElem h]
  rfl
theorem stay_snoc {l : List Ow} {i : Nat} (h : i < l.length) : stay (l.take (i + 1)) = stay (l.take i) + if (at_ l i).f1 = 3 then 0 else 1 := by
  rw [take_snoc h]
  unfold stay
  rw [List.filter_append, List.length_append]
  by_cases e : (at_ l i).f1 = 3
  · simp [e]
  · simp [e]
theorem stay_le (l : List Ow) : stay l ≤ l.length := List.length_filter_le _ _
theorem hrs_snoc {l : List Ow} {i : Nat} (h : i < l.length) : hrs (l.take (i + 1)) = hrs (l.take i) ++ if (at_ l i).f1 = 1 then [(at_ l i).f2] else [] := by
  rw [take_snoc h]
  unfold hrs
  rw [List.filter_append, List.map_append]
  by_cases e : (at_ l i).f1 = 1
  · simp [e]
  · simp [e]
theorem hrs_le (l : List Ow) : (hrs l).length ≤ l.length := by
  unfold hrs
  rw [List.length_map]
  exact List.length_filter_le _ _
theorem right_bad {ns : List Int} {l : List Ow} {i : Nat} (hi : i < l.length) (h : good ns l i = false) : rightB ns l = false := by
  unfold rightB
  rw [List.all_eq_false.2 ⟨i, List.mem_range.2 hi, by rw [h]; simp⟩]
  rfl
theorem right_heir {ns : List Int} {l : List Ow} {i : Nat} (hi : i < l.length) (h : heir l (at_ l i) = false) : rightB ns l = false := by
  unfold rightB
  have hm : at_ l i ∈ l := by
    unfold at_
    rw [List.getD_eq_getElem?_getD, List.getElem?_eq_getElem hi]
    exact List.getElem_mem _
  rw [List.all_eq_false (l := l).2 ⟨_, hm, by rw [h]; simp⟩]
  simp
theorem right_end {ns : List Int} {l : List Ow} (h1 : ∀ j, j < l.length → good ns l j = true) (h2 : ∀ j, j < l.length → heir l (at_ l j) = true) : rightB ns l = (((stay l : Nat) : Int) == 3) := by
  unfold rightB
  rw [List.all_eq_true.2 (fun j hj => h1 j (List.mem_range.1 hj)), List.all_eq_true.2 (fun x hx => by
    obtain ⟨i, hi, rfl⟩ := List.getElem_of_mem hx
    have := h2 i hi
    unfold at_ at this
    rwa [List.getD_eq_getElem?_getD, List.getElem?_eq_getElem hi] at this)]
  simp only [Bool.true_and]
  rw [Bool.eq_iff_iff]
  simp only [beq_iff_eq]
  omega
/-- slices.Contains of the library. -/
theorem index_l0 (xs : List Int) (a : Int) (hl : xs.length ≤ 1000000000) : ∀ (d k i : Nat), i + d = xs.length → d < k → ∃ r, slices_Index_int_int.l0 k xs a (xs.length : Int) i = some r ∧ (0 ≤ r ↔ a ∈ xs.drop i)
  | 0, k + 1, i, hi, hk => by
    rw [slices_Index_int_int.l0, if_neg (by omega)]
    refine ⟨-1, rfl, ?_⟩
    rw [List.drop_of_length_le (by omega)]
    simp
  | d + 1, k + 1, i, hi, hk => by
    rw [slices_Index_int_int.l0, if_pos (by omega), if_pos (by omega), if_pos (by omega)]
    have hlt : i < xs.length := by omega
    have hrd : rd xs (i : Int) = xs[i] := by
      unfold rd
      rw [Int.toNat_natCast, List.getD_eq_getElem?_getD, List.getElem?_eq_getElem hlt]
      rfl
    rw [hrd, List.drop_eq_getElem_cons hlt]
    by_cases h : a = xs[i]
    · rw [if_pos h]
      exact ⟨_, rfl, ⟨fun _ => by rw [h]; exact List.mem_cons_self .., fun _ => by omega⟩⟩
    · rw [if_neg h]
      have e1 : wrap64 ((i : Int) + 1) = ((i + 1 : Nat) : Int) := by unfold wrap64; omega
      rw [e1]
      obtain ⟨r, h1, h2⟩ := index_l0 xs a hl d k (i + 1) (by omega) (by omega)
      refine ⟨r, h1, ?_⟩
      rw [h2, List.mem_cons]
      exact ⟨.inr, fun h' => h'.resolve_left h⟩
theorem contains_eq (xs : List Int) (a : Int) (hl : xs.length ≤ 1000000000) : slices_Contains_int_int.f 1000000001 xs a = some (decide (a ∈ xs)) := by
  unfold slices_Contains_int_int.f slices_Index_int_int.f
  obtain ⟨r, h1, h2⟩ := index_l0 xs a hl xs.length 1000000001 0 (by omega) (by omega)
  have h1' : slices_Index_int_int.l0 1000000001 xs a (xs.length : Int) 0 = some r := h1
  rw [h1', Option.bind_some]
  rw [List.drop_zero] at h2
  congr 1
  rw [Bool.eq_iff_iff, decide_eq_true_iff, decide_eq_true_iff]
  exact h2
end Go.Proofs.Ytmdebnfjhnhcjaa.PlS
