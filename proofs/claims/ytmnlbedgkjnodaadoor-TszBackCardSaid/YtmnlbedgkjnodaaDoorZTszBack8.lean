/- Which lists of points may be, and the bits of a list, in plain words.
   What functions of the translation come to, each as a Lean function, and a proof that the call comes to just that; or a law's row, out of its plain law. Written by mp.py, a program of this session, which runs the printer of the kit with stand-in bodies for some library functions. -/
import Derived.Test.YtmnlbedgkjnodaaDoorZTszBack6
import Derived.Test.YtmnlbedgkjnodaaDoorZTszBack2
namespace Go.Proofs.YtmnlbedgkjnodaaDoor.TeP
open Go.RowKit Go.Proofs.YtmnlbedgkjnodaaDoorW.PrintWords Go.Proofs.YtmnlbedgkjnodaaDoorW.PrintLast Go.Proofs.YtmnlbedgkjnodaaDoorW.PrintMore Go.Proofs.YtmnlbedgkjnodaaDoor.QB Go.Proofs.YtmnlbedgkjnodaaDoor.Bt Go.Proofs.YtmnlbedgkjnodaaDoor.TzP Go.Proofs.YtmnlbedgkjnodaaDoor.Uv
set_option linter.unusedVariables false
set_option linter.unusedSimpArgs false

abbrev Pt := S33
def okPt (p : Pt) : Prop := (-9223372036854775808 ≤ p.f0 ∧ p.f0 < 9223372036854775808) ∧ (0 ≤ p.f1 ∧ p.f1 < 18446744073709551616) ∧ (0 ≤ p.f2 ∧ p.f2 < 18446744073709551616)
instance (p : Pt) : Decidable (okPt p) := by unfold okPt; infer_instance
def OkL (l : List Pt) : Prop := ∀ p ∈ l, okPt p
/-- What a check of points in their order tells. -/
def chk : Int → List Pt → Int
  | _, [] => 0
  | last, p :: t => if p.f0 < 0 ∨ 1099511627776 < p.f0 then 1 else if p.f0 ≤ last then 51 else chk p.f0 t
def checkF (l : List Pt) : Int := if 512 < l.length then 52 else chk (-1) l
theorem chk_cases : ∀ (l : List Pt) (a : Int), chk a l = 0 ∨ chk a l = 1 ∨ chk a l = 51
  | [], _ => .inl rfl
  | p :: t, a => by
    unfold chk
    split
    · exact .inr (.inl rfl)
    · split
      · exact .inr (.inr rfl)
      · exact chk_cases t p.f0
theorem checkF_cases (l : List Pt) : checkF l = 0 ∨ checkF l = 1 ∨ checkF l = 51 ∨ checkF l = 52 := by
  unfold checkF
  split
  · exact .inr (.inr (.inr rfl))
  · rcases chk_cases l (-1) with h | h | h <;> simp [h]
/-- A list that may be: its times rise. -/
theorem chk_zero : ∀ (l : List Pt) (a : Int), chk a l = 0 → (∀ i (h : i < l.length), 0 ≤ l[i].f0 ∧ l[i].f0 ≤ 1099511627776 ∧ a < l[i].f0) ∧ ∀ i (h : i + 1 < l.length), l[i].f0 < l[i + 1].f0
  | [], _, _ => ⟨fun i h => by simp at h, fun i h => by simp at h⟩
  | p :: t, a, h => by
    unfold chk at h
    split at h
    · cases h
    · split at h
      · cases h
      · rename_i h1 h2
        obtain ⟨h3, h4⟩ := chk_zero t p.f0 h
        refine ⟨fun i hi => ?_, fun i hi => ?_⟩
        · cases i with
          | zero => simp only [List.getElem_cons_zero]; omega
          | succ i =>
            have := h3 i (by simpa using hi)
            simp only [List.getElem_cons_succ]
            omega
        · cases i with
          | zero =>
            have := h3 0 (by simpa using hi)
            simp only [List.getElem_cons_zero, List.getElem_cons_succ]
            omega
          | succ i =>
            have := h4 i (by simpa using hi)
            simpa using this
theorem checkF_zero {l : List Pt} (h : checkF l = 0) : l.length ≤ 512 ∧ (∀ i (h : i < l.length), 0 ≤ l[i].f0 ∧ l[i].f0 ≤ 1099511627776) ∧ ∀ i (h : i + 1 < l.length), l[i].f0 < l[i + 1].f0 := by
  unfold checkF at h
  split at h
  · cases h
  · rename_i h1
    obtain ⟨h2, h3⟩ := chk_zero l (-1) h
    exact ⟨by omega, fun i hi => ⟨(h2 i hi).1, (h2 i hi).2.1⟩, h3⟩
theorem chk_take : ∀ (l : List Pt) (a : Int) (n : Nat), chk a l = 0 → chk a (l.take n) = 0
  | [], _, n, _ => by simp [chk]
  | p :: t, a, 0, h => by simp [chk]
  | p :: t, a, n + 1, h => by
    unfold chk at h
    split at h
    · cases h
    · split at h
      · cases h
      · rename_i h1 h2
        rw [List.take_succ_cons]
        unfold chk
        rw [if_neg h1, if_neg h2]
        exact chk_take t p.f0 n h
theorem checkF_take {l : List Pt} (h : checkF l = 0) (n : Nat) : checkF (l.take n) = 0 := by
  have h1 := (checkF_zero h).1
  unfold checkF at h ⊢
  rw [if_neg (by omega)] at h
  rw [if_neg (by rw [List.length_take]; omega)]
  exact chk_take l (-1) n h

/-- Between two points: the distance, and both windows. -/
abbrev St := Int × Win × Win
def st0 : St := (0, none, none)
def zp : Pt := ⟨0, 0, 0⟩
def step (q p : Pt) (s : St) : List Int × St :=
  let v := valueB (p.f1.toNat ^^^ q.f1.toNat) s.2.1
  let u := valueB (p.f2.toNat ^^^ q.f2.toNat) s.2.2
  (timeB (p.f0 - q.f0 - s.1) ++ v.1 ++ u.1, (p.f0 - q.f0, v.2, u.2))
/-- The first point. -/
def first (p : Pt) : List Int := bitsOf p.f0.toNat 64 ++ bitsOf p.f1.toNat 64 ++ bitsOf p.f2.toNat 64
/-- The bits of the first i points, and what stands behind them. -/
def goB (l : List Pt) : Nat → List Int × St
  | 0 => ([], st0)
  | i + 1 => if i = 0 then (first (l.getD 0 zp), st0) else
      let r := goB l i
      let s := step (l.getD (i - 1) zp) (l.getD i zp) r.2
      (r.1 ++ s.1, s.2)
def bitsT (l : List Pt) : List Int := (goB l l.length).1
theorem goB_one (l : List Pt) : goB l 1 = (first (l.getD 0 zp), st0) := by rw [goB, if_pos rfl]
theorem goB_succ (l : List Pt) (j : Nat) : goB l (j + 2) = ((goB l (j + 1)).1 ++ (step (l.getD j zp) (l.getD (j + 1) zp) (goB l (j + 1)).2).1, (step (l.getD j zp) (l.getD (j + 1) zp) (goB l (j + 1)).2).2) := by
  rw [show j + 2 = (j + 1) + 1 from rfl, goB, if_neg (by omega)]
  simp
theorem step_isBits (q p : Pt) (s : St) : IsBits (step q p s).1 := ((timeB_isBits _).append (valueB_isBits _ _)).append (valueB_isBits _ _)
theorem step_length (q p : Pt) (s : St) : 3 ≤ (step q p s).1.length ∧ (step q p s).1.length ≤ 222 := by
  have h1 := timeB_length (p.f0 - q.f0 - s.1)
  have h2 := valueB_length (p.f1.toNat ^^^ q.f1.toNat) s.2.1
  have h3 := valueB_length (p.f2.toNat ^^^ q.f2.toNat) s.2.2
  show 3 ≤ (timeB _ ++ (valueB _ _).1 ++ (valueB _ _).1).length ∧ (timeB _ ++ (valueB _ _).1 ++ (valueB _ _).1).length ≤ 222
  rw [List.length_append, List.length_append]
  omega
theorem first_isBits (p : Pt) : IsBits (first p) := ((bitsOf_isBits _ _).append (bitsOf_isBits _ _)).append (bitsOf_isBits _ _)
theorem first_length (p : Pt) : (first p).length = 192 := by unfold first; simp [bitsOf_length]
theorem goB_isBits (l : List Pt) : ∀ i, IsBits (goB l i).1
  | 0 => fun x hx => by simp [goB] at hx
  | 1 => by rw [goB_one]; exact first_isBits _
  | j + 2 => by rw [goB_succ]; exact (goB_isBits l (j + 1)).append (step_isBits _ _ _)
theorem goB_length (l : List Pt) : ∀ i, (goB l i).1.length ≤ 222 * i
  | 0 => by simp [goB]
  | 1 => by rw [goB_one]; simp [first_length]
  | j + 2 => by
    rw [goB_succ]
    have h1 := goB_length l (j + 1)
    have h2 := (step_length (l.getD j zp) (l.getD (j + 1) zp) (goB l (j + 1)).2).2
    simp only [List.length_append]
    omega
theorem goB_zero_st (l : List Pt) : (goB l 0).2 = st0 := rfl
theorem getD_ok {l : List Pt} (h : OkL l) (i : Nat) : okPt (l.getD i zp) := by
  rw [List.getD_eq_getElem?_getD]
  by_cases hi : i < l.length
  · rw [List.getElem?_eq_getElem hi]
    exact h _ (List.getElem_mem hi)
  · rw [List.getElem?_eq_none (by omega)]
    exact ⟨by decide, by decide, by decide⟩
theorem xor_lt {a b : Int} (ha : 0 ≤ a ∧ a < 18446744073709551616) (hb : 0 ≤ b ∧ b < 18446744073709551616) : a.toNat ^^^ b.toNat < 18446744073709551616 :=
  Nat.xor_lt_two_pow (n := 64) (by omega) (by omega)
theorem goB_ok {l : List Pt} (h : OkL l) : ∀ i, (goB l i).2.2.1.Ok ∧ (goB l i).2.2.2.Ok
  | 0 => ⟨Win.ok_none, Win.ok_none⟩
  | 1 => by rw [goB_one]; exact ⟨Win.ok_none, Win.ok_none⟩
  | j + 2 => by
    rw [goB_succ]
    obtain ⟨h1, h2⟩ := goB_ok h (j + 1)
    have a := getD_ok h j
    have b := getD_ok h (j + 1)
    exact ⟨valueB_ok (xor_lt b.2.1 a.2.1) h1, valueB_ok (xor_lt b.2.2 a.2.2) h2⟩
theorem goB_dist {l : List Pt} (h : checkF l = 0) : ∀ i, i ≤ l.length → -1099511627776 ≤ (goB l i).2.1 ∧ (goB l i).2.1 ≤ 1099511627776
  | 0, _ => by simp [goB, st0]
  | 1, _ => by rw [goB_one]; simp [st0]
  | j + 2, hi => by
    rw [goB_succ]
    obtain ⟨_, h2, _⟩ := checkF_zero h
    have a := h2 j (by omega)
    have b := h2 (j + 1) (by omega)
    show -1099511627776 ≤ (l.getD (j + 1) zp).f0 - (l.getD j zp).f0 ∧ _ ≤ _
    rw [List.getD_eq_getElem?_getD, List.getElem?_eq_getElem (by omega), List.getD_eq_getElem?_getD, List.getElem?_eq_getElem (by omega)]
    simp only [Option.getD_some]
    show -1099511627776 ≤ l[j + 1].f0 - l[j].f0 ∧ l[j + 1].f0 - l[j].f0 ≤ 1099511627776
    omega
/-- The bytes of a list. -/
def encB (l : List Pt) : List Int := uv l.length ++ pk (bitsT l)
def encT (l : List Pt) : List Int × Int := if checkF l = 0 then (encB l, 0) else ([], checkF l)
end Go.Proofs.YtmnlbedgkjnodaaDoor.TeP
namespace Go.Proofs.YtmnlbedgkjnodaaDoor.QB
open Go.RowKit Go.Proofs.YtmnlbedgkjnodaaDoorW.PrintWords Go.Proofs.YtmnlbedgkjnodaaDoorW.PrintLast Go.Proofs.YtmnlbedgkjnodaaDoorW.PrintMore
attribute [local go_sem] max2_int min2_int max_two min_two max_three min_three max_four min_four   -- for this text's walks alone
set_option linter.unusedVariables false
set_option linter.unusedSimpArgs false

/-! ### tsz_Check: function 17 -/
mutual
def tsz_Check.l0 : Nat → Int → List (S33) → Int → Int → Option (Int)
  | 0, _, _, _, _ => none
  | k + 1, x3, x9, x10, x11 => if x11 < x10 then (if 0 ≤ x11 then (if x11 < (x9.length : Int) then (if ((rd_T33 x9 x11).f0) < 0 then (tsz_Check.j1 k x3 x9 x10 x11 true ((rd_T33 x9 x11).f0) ((rd_T33 x9 x11).f1) ((rd_T33 x9 x11).f2)) else (tsz_Check.j1 k x3 x9 x10 x11 (decide (((rd_T33 x9 x11).f0) > 1099511627776)) ((rd_T33 x9 x11).f0) ((rd_T33 x9 x11).f1) ((rd_T33 x9 x11).f2))) else (none)) else (none)) else (some 0)
def tsz_Check.j1 : Nat → Int → List (S33) → Int → Int → Bool → Int → Int → Int → Option (Int)
  | 0, _, _, _, _, _, _, _, _ => none
  | k + 1, x3, x9, x10, x11, x15, x103000, x103001, x103002 => if x15 = true then (some 1) else (if x103000 ≤ x3 then (some 51) else (tsz_Check.l0 k x103000 x9 x10 (wrap64 (x11 + 1))))
end
def tsz_Check.f (k : Nat) (l0 : List (S33)) : Option (Int) := if (l0.length : Int) > 512 then (some 52) else (tsz_Check.l0 k (-1) l0 (l0.length : Int) 0)
theorem tsz_Check.mono_l : ∀ k, (∀ y0 y1 y2 y3, LeO (tsz_Check.l0 k y0 y1 y2 y3) (tsz_Check.l0 (k + 1) y0 y1 y2 y3)) ∧ (∀ y0 y1 y2 y3 y4 y5 y6 y7, LeO (tsz_Check.j1 k y0 y1 y2 y3 y4 y5 y6 y7) (tsz_Check.j1 (k + 1) y0 y1 y2 y3 y4 y5 y6 y7))
  | 0 => ⟨fun _ _ _ _ r h => by simp [tsz_Check.l0] at h, fun _ _ _ _ _ _ _ _ r h => by simp [tsz_Check.j1] at h⟩
  | k + 1 => by
    obtain ⟨ih0, ih1⟩ := tsz_Check.mono_l k
    refine ⟨?_, ?_⟩
    · intro y0 y1 y2 y3
      unfold tsz_Check.l0
      repeat' first
      | (with_reducible exact ih0 _ _ _ _)
      | (with_reducible exact ih1 _ _ _ _ _ _ _ _)
      | (with_reducible exact LeO.refl _)
      | (with_reducible exact LeO.none _)
      | (with_reducible refine LeO.ite ?_ ?_)
      | (with_reducible refine LeO.bind ?_ (fun _ => ?_))
      | exact ih0 _ _ _ _
      | exact ih1 _ _ _ _ _ _ _ _
      | exact LeO.none _
      | refine LeO.ite ?_ ?_
      | refine LeO.bind ?_ (fun _ => ?_)
    · intro y0 y1 y2 y3 y4 y5 y6 y7
      unfold tsz_Check.j1
      repeat' first
      | (with_reducible exact ih0 _ _ _ _)
      | (with_reducible exact ih1 _ _ _ _ _ _ _ _)
      | (with_reducible exact LeO.refl _)
      | (with_reducible exact LeO.none _)
      | (with_reducible refine LeO.ite ?_ ?_)
      | (with_reducible refine LeO.bind ?_ (fun _ => ?_))
      | exact ih0 _ _ _ _
      | exact ih1 _ _ _ _ _ _ _ _
      | exact LeO.none _
      | refine LeO.ite ?_ ?_
      | refine LeO.bind ?_ (fun _ => ?_)
theorem tsz_Check.mono : ∀ a0 k, LeO (tsz_Check.f k a0) (tsz_Check.f (k + 1) a0) := by
  intro a0 k
  obtain ⟨ih0, ih1⟩ := tsz_Check.mono_l k
  unfold tsz_Check.f
  repeat' first
      | (with_reducible exact ih0 _ _ _ _)
      | (with_reducible exact ih1 _ _ _ _ _ _ _ _)
      | (with_reducible exact LeO.refl _)
      | (with_reducible exact LeO.none _)
      | (with_reducible refine LeO.ite ?_ ?_)
      | (with_reducible refine LeO.bind ?_ (fun _ => ?_))
      | exact ih0 _ _ _ _
      | exact ih1 _ _ _ _ _ _ _ _
      | exact LeO.none _
      | refine LeO.ite ?_ ?_
      | refine LeO.bind ?_ (fun _ => ?_)
set_option maxHeartbeats 8000000 in
set_option maxRecDepth 100000 in
theorem tsz_Check.calls (k : Nat) (A0 : Option Addr) (c0 : Nat) (l0 : List (S33)) (r : Int) (w : World) (hr0 : Kd.C k33 w A0 l0.length l0) (hc0 : l0.length ≤ c0) (h : tsz_Check.f k l0 = some r) :
    Calls Tryd.prog 17 #[.slice A0 l0.length c0] w fun e w' => e = .returned (.int .i64 r) ∧ Below w.heap.size w w' := by
  have hu33 := Tryd.underlying33
  have HR0 := Aside0.mk hr0
  have HC0 := Aside0.mk hc0
  clear hr0 hc0
  have HB := Aside0.mk (Below.refl w.heap.size w)
  have H : (if (l0.length : Int) > 512 then (some 52) else (tsz_Check.l0 k (-1) l0 (l0.length : Int) 0)) = some r := h
  clear h
  by_cases c2 : (l0.length : Int) > 512
  · rw [if_pos c2] at H
    have c2b0 : decide (512 < (l0.length : Int)) = true := decide_eq_true c2
    have c2b1 : decide (512 < l0.length) = true := decide_eq_true (by omega)
    clear c2
    obtain rfl := Option.some.inj H
    go_enter Tryd.func17, Tryd.ntmps17
    go_wp2
    go_ret
    exact ⟨by first | rfl | (simp [errW_none, errW_some] <;> rfl) | (simp [*, errW_none, errW_some] <;> rfl), by repeat (first | (with_reducible first | exact HB.out | apply below_alloc | apply pw_below_drewN | apply below_drew1) | exact HB.out)⟩
  · rw [if_neg c2] at H
    have c2b0 : decide (512 < (l0.length : Int)) = false := decide_eq_false c2
    have c2b1 : decide (512 < l0.length) = false := decide_eq_false (by omega)
    clear c2
    have H' := Aside0.mk H
    clear H
    go_enter Tryd.func17, Tryd.ntmps17
    go_wp2
    go_loopg [3, 11] k (fun kq v3 v11 w' => ∃ (x3_1 : Int) (x11_1 : Int), v3 = .int .i64 x3_1 ∧ v11 = .int .i64 x11_1 ∧ Aside0 (tsz_Check.l0 kq x3_1 l0 (l0.length : Int) x11_1 = some r) ∧ Aside0 (kq ≤ k) ∧ Aside0 (Below w.heap.size w w'))
    case atStart => exact ⟨((-1)), (0), (by first | rfl | (simp; done) | (simp [*]; done)), (by first | rfl | (simp; done) | (simp [*]; done)), H', ⟨Nat.le_refl _⟩, ⟨by repeat (first | (with_reducible first | exact HB.out | apply below_alloc | apply pw_below_drewN | apply below_drew1) | exact HB.out)⟩⟩
    case round =>
      clear H'
      try clear c1
      try clear c2
      try clear c2b0
      try clear c2b1
      try clear p2
      obtain ⟨x3_1, x11_1, rfl, rfl, HA, HK1, HB⟩ := hrel
      cases gk with
      | zero => exact absurd HA.out (by simp [tsz_Check.l0])
      | succ k1 =>
        have H := HA.out
        clear HA
        simp only [tsz_Check.l0] at H
        by_cases c3 : x11_1 < (l0.length : Int)
        · rw [if_pos c3] at H
          have c3b0 : decide (x11_1 < (l0.length : Int)) = true := decide_eq_true c3
          clear c3
          by_cases c4 : 0 ≤ x11_1
          · rw [if_pos c4] at H
            have c4b0 : decide (0 ≤ x11_1) = true := decide_eq_true c4
            clear c4
            by_cases c5 : x11_1 < (l0.length : Int)
            · rw [if_pos c5] at H
              have c5b0 : decide (x11_1 < (l0.length : Int)) = true := decide_eq_true c5
              clear c5
              have HC6 := Aside0.mk H
              clear H
              have p101 : 0 ≤ (x11_1 : Int) := of_decide_eq_true (by first | (with_reducible assumption) | assumption)
              have q101 : x11_1 < (l0.length : Int) := of_decide_eq_true (by first | (with_reducible assumption) | assumption)
              obtain ⟨ad101, e101, hx101_0, hx101_1, hx101_2⟩ := at_T33 HR0.out x11_1 p101 q101
              cases e101
              replace hx101_0 := (HB.out.cell (World.block_lt_of_cell? w _ hx101_0)).trans hx101_0
              replace hx101_1 := (HB.out.cell (World.block_lt_of_cell? w _ hx101_1)).trans hx101_1
              replace hx101_2 := (HB.out.cell (World.block_lt_of_cell? w _ hx101_2)).trans hx101_2
              replace p101 := eq_true p101
              replace q101 := eq_true q101
              go_upto_region 7 with (first | ((with_reducible refine gate_dst (N := 5) rfl ?_); refine box_event ?hg (N := 5) ?hd (cs := #[.int .i64 0, .int .u64 0, .int .u64 0]) (t := 33) ?hr ?_; (case hd => rfl); (case hg => rfl); (case hr => first | (go_simp; done) | (go_simp; rfl)); intro gb102 hg w7 hbox hb; have n0_ := Aside0.mk (below_step (by repeat (first | (with_reducible first | exact HB.out | apply below_alloc | apply pw_below_drewN | apply below_drew1) | exact HB.out)) hb); have n1_ := Aside0.mk (hbox); have n2_ := Aside0.mk ((by rw [hg]; exact (below_size (by repeat (first | (with_reducible first | exact HB.out | apply below_alloc | apply pw_below_drewN | apply below_drew1) | exact HB.out))) : w.heap.size ≤ gb102)); have n3_ := Aside0.mk ((by rw [hg]; exact (below_size (by repeat (first | (with_reducible first | exact HB.out | apply below_alloc | apply pw_below_drewN | apply below_drew1) | exact HB.out))) : w.heap.size ≤ gb102)); clear HB; have HB := n0_; have BK102 := n1_; have GW102 := n2_; have GE102 := n3_; clear n0_ n1_ n2_ n3_; clear hb hbox hg; have hcz8_0 : w7.cell? ⟨gb102, 0, none⟩ = some (.int .i64 0) := (blk_cell BK102.out 0).trans rfl; have hcz8_1 : w7.cell? ⟨gb102, 1, none⟩ = some (.int .u64 0) := (blk_cell BK102.out 1).trans rfl; have hcz8_2 : w7.cell? ⟨gb102, 2, none⟩ = some (.int .u64 0) := (blk_cell BK102.out 2).trans rfl; have hfz8_0 := blk_frozen BK102.out 0; have hfz8_1 := blk_frozen BK102.out 1; have hfz8_2 := blk_frozen BK102.out 2))
              (try simp only [Act.put, List.setIfInBounds_toArray, List.set_cons_zero, List.set_cons_succ])
              go_cut [15] (fun v15 wc => ∃ (kq : Nat) (x15_5 : Bool), v15 = .bool x15_5 ∧ Aside0 (tsz_Check.j1 kq x3_1 l0 (l0.length : Int) x11_1 x15_5 ((rd_T33 l0 x11_1).f0) ((rd_T33 l0 x11_1).f1) ((rd_T33 l0 x11_1).f2) = some r) ∧ Aside0 (kq ≤ k1) ∧ Aside0 (wc.heap[gb102]? = some (.cells #[.int .i64 ((rd_T33 l0 x11_1).f0), .int .u64 ((rd_T33 l0 x11_1).f1), .int .u64 ((rd_T33 l0 x11_1).f2)] 33 (0, 0))) ∧ Aside0 (Below w.heap.size w wc))
              case first =>
                have H := HC6.out
                clear HC6
                by_cases c9 : ((rd_T33 l0 x11_1).f0) < 0
                · rw [if_pos c9] at H
                  have c9b0 : decide (((rd_T33 l0 x11_1).f0) < 0) = true := decide_eq_true c9
                  clear c9
                  (first | rw [c9b0] | (simp only [i64_w, i32_w]; rw [c9b0]) | skip)
                  have H' := Aside0.mk H
                  clear H
                  have hcz10_0 : w7.cell? ⟨gb102, 0, none⟩ = some (.int .i64 0) := (blk_cell BK102.out 0).trans rfl
                  have hcz10_1 : w7.cell? ⟨gb102, 1, none⟩ = some (.int .u64 0) := (blk_cell BK102.out 1).trans rfl
                  have hcz10_2 : w7.cell? ⟨gb102, 2, none⟩ = some (.int .u64 0) := (blk_cell BK102.out 2).trans rfl
                  have hfz10_0 := blk_frozen BK102.out 0
                  have hfz10_1 := blk_frozen BK102.out 1
                  have hfz10_2 := blk_frozen BK102.out 2
                  go_wp2
                  go_meet
                  case rel => exact ⟨_, (true), (by first | rfl | (simp; done) | (simp [*]; done)), H', ⟨by have := HK1.out; first | omega | exact Nat.le_refl _⟩, ⟨by (with_reducible repeat (first | refine blk_drewN ?_ _ | refine blk_drew ?_ | refine blk_alloc ?_ _)); refine blk_put (cs := #[.int .i64 ((rd_T33 l0 x11_1).f0), .int .u64 ((rd_T33 l0 x11_1).f1), .int .u64 0]) ?_ 2 _ rfl; (with_reducible repeat (first | refine blk_drewN ?_ _ | refine blk_drew ?_ | refine blk_alloc ?_ _)); refine blk_put (cs := #[.int .i64 ((rd_T33 l0 x11_1).f0), .int .u64 0, .int .u64 0]) ?_ 1 _ rfl; (with_reducible repeat (first | refine blk_drewN ?_ _ | refine blk_drew ?_ | refine blk_alloc ?_ _)); refine blk_put (cs := #[.int .i64 0, .int .u64 0, .int .u64 0]) ?_ 0 _ rfl; (with_reducible repeat (first | refine blk_drewN ?_ _ | refine blk_drew ?_ | refine blk_alloc ?_ _)); exact BK102.out⟩, ⟨by repeat (first | (with_reducible first | exact HB.out | apply below_alloc | apply pw_below_drewN | apply below_drew1 | refine below_set ?_ GE102.out) | exact HB.out)⟩⟩
                · rw [if_neg c9] at H
                  have c9b0 : decide (((rd_T33 l0 x11_1).f0) < 0) = false := decide_eq_false c9
                  clear c9
                  (first | rw [c9b0] | (simp only [i64_w, i32_w]; rw [c9b0]) | skip)
                  have H' := Aside0.mk H
                  clear H
                  have hcz11_0 : w7.cell? ⟨gb102, 0, none⟩ = some (.int .i64 0) := (blk_cell BK102.out 0).trans rfl
                  have hcz11_1 : w7.cell? ⟨gb102, 1, none⟩ = some (.int .u64 0) := (blk_cell BK102.out 1).trans rfl
                  have hcz11_2 : w7.cell? ⟨gb102, 2, none⟩ = some (.int .u64 0) := (blk_cell BK102.out 2).trans rfl
                  have hfz11_0 := blk_frozen BK102.out 0
                  have hfz11_1 := blk_frozen BK102.out 1
                  have hfz11_2 := blk_frozen BK102.out 2
                  go_wp2
                  go_meet
                  case rel => exact ⟨_, (decide (((rd_T33 l0 x11_1).f0) > 1099511627776)), (by first | rfl | (simp; done) | (simp [*]; done)), H', ⟨by have := HK1.out; first | omega | exact Nat.le_refl _⟩, ⟨by (with_reducible repeat (first | refine blk_drewN ?_ _ | refine blk_drew ?_ | refine blk_alloc ?_ _)); refine blk_put (cs := #[.int .i64 ((rd_T33 l0 x11_1).f0), .int .u64 ((rd_T33 l0 x11_1).f1), .int .u64 0]) ?_ 2 _ rfl; (with_reducible repeat (first | refine blk_drewN ?_ _ | refine blk_drew ?_ | refine blk_alloc ?_ _)); refine blk_put (cs := #[.int .i64 ((rd_T33 l0 x11_1).f0), .int .u64 0, .int .u64 0]) ?_ 1 _ rfl; (with_reducible repeat (first | refine blk_drewN ?_ _ | refine blk_drew ?_ | refine blk_alloc ?_ _)); refine blk_put (cs := #[.int .i64 0, .int .u64 0, .int .u64 0]) ?_ 0 _ rfl; (with_reducible repeat (first | refine blk_drewN ?_ _ | refine blk_drew ?_ | refine blk_alloc ?_ _)); exact BK102.out⟩, ⟨by repeat (first | (with_reducible first | exact HB.out | apply below_alloc | apply pw_below_drewN | apply below_drew1 | refine below_set ?_ GE102.out) | exact HB.out)⟩⟩
              case rest =>
                clear HC6
                try clear c1
                try clear p1
                try clear q1
                try clear hx1
                try clear c2
                try clear c2b0
                try clear c2b1
                try clear p2
                try clear c3
                try clear c3b0
                try clear c4
                try clear c4b0
                try clear c5
                try clear c5b0
                try clear c9
                try clear c9b0
                try clear p10
                try clear q10
                try clear hx10
                try clear hcz10_0
                try clear hcz10_1
                try clear hcz10_2
                try clear hcz11_0
                try clear hcz11_1
                try clear hcz11_2
                try clear hcz8_0
                try clear hcz8_1
                try clear hcz8_2
                try clear hfz10_0
                try clear hfz10_1
                try clear hfz10_2
                try clear hfz11_0
                try clear hfz11_1
                try clear hfz11_2
                try clear hfz8_0
                try clear hfz8_1
                try clear hfz8_2
                try clear hx101_0
                try clear hx101_1
                try clear hx101_2
                try clear p101
                try clear p2
                try clear q101
                obtain ⟨kq, x15_5, rfl, HA, HJ5, BK102, HB⟩ := hcut
                cases kq with
                | zero => exact absurd HA.out (by simp [tsz_Check.j1])
                | succ kj5 =>
                  have H := HA.out
                  clear HA
                  simp only [tsz_Check.j1] at H
                  by_cases c12 : x15_5 = true
                  · subst c12
                    have H1 : (some 1) = some r := by rw [if_pos rfl] at H; exact H
                    clear H
                    have H := H1
                    clear H1
                    obtain rfl := Option.some.inj H
                    go_wp2
                    go_ret
                    exact ⟨by first | rfl | (simp [errW_none, errW_some] <;> rfl) | (simp [*, errW_none, errW_some] <;> rfl), by repeat (first | (with_reducible first | exact HB.out | apply below_alloc | apply pw_below_drewN | apply below_drew1 | refine below_set ?_ GE102.out) | exact HB.out)⟩
                  · replace c12 := Bool.eq_false_iff.mpr c12
                    subst c12
                    have H1 : (if ((rd_T33 l0 x11_1).f0) ≤ x3_1 then (some 51) else (tsz_Check.l0 kj5 ((rd_T33 l0 x11_1).f0) l0 (l0.length : Int) (wrap64 (x11_1 + 1)))) = some r := by rw [if_neg (show ¬ (false = true) by decide)] at H; exact H
                    clear H
                    have H := H1
                    clear H1
                    by_cases c13 : ((rd_T33 l0 x11_1).f0) ≤ x3_1
                    · rw [if_pos c13] at H
                      have c13b0 : decide (((rd_T33 l0 x11_1).f0) ≤ x3_1) = true := decide_eq_true c13
                      clear c13
                      obtain rfl := Option.some.inj H
                      have hcz14_0 : wc.cell? ⟨gb102, 0, none⟩ = some (.int .i64 ((rd_T33 l0 x11_1).f0)) := (blk_cell BK102.out 0).trans rfl
                      have hcz14_1 : wc.cell? ⟨gb102, 1, none⟩ = some (.int .u64 ((rd_T33 l0 x11_1).f1)) := (blk_cell BK102.out 1).trans rfl
                      have hcz14_2 : wc.cell? ⟨gb102, 2, none⟩ = some (.int .u64 ((rd_T33 l0 x11_1).f2)) := (blk_cell BK102.out 2).trans rfl
                      have hfz14_0 := blk_frozen BK102.out 0
                      have hfz14_1 := blk_frozen BK102.out 1
                      have hfz14_2 := blk_frozen BK102.out 2
                      go_wp2
                      go_ret
                      exact ⟨by first | rfl | (simp [errW_none, errW_some] <;> rfl) | (simp [*, errW_none, errW_some] <;> rfl), by repeat (first | (with_reducible first | exact HB.out | apply below_alloc | apply pw_below_drewN | apply below_drew1 | refine below_set ?_ GE102.out) | exact HB.out)⟩
                    · rw [if_neg c13] at H
                      have c13b0 : decide (((rd_T33 l0 x11_1).f0) ≤ x3_1) = false := decide_eq_false c13
                      clear c13
                      have H' := Aside0.mk H
                      clear H
                      have hcz15_0 : wc.cell? ⟨gb102, 0, none⟩ = some (.int .i64 ((rd_T33 l0 x11_1).f0)) := (blk_cell BK102.out 0).trans rfl
                      have hcz15_1 : wc.cell? ⟨gb102, 1, none⟩ = some (.int .u64 ((rd_T33 l0 x11_1).f1)) := (blk_cell BK102.out 1).trans rfl
                      have hcz15_2 : wc.cell? ⟨gb102, 2, none⟩ = some (.int .u64 ((rd_T33 l0 x11_1).f2)) := (blk_cell BK102.out 2).trans rfl
                      have hfz15_0 := blk_frozen BK102.out 0
                      have hfz15_1 := blk_frozen BK102.out 1
                      have hfz15_2 := blk_frozen BK102.out 2
                      go_wp2
                      go_roundg kj5
                      case measure => have := HK1.out; have := HJ5.out; omega
                      case rel => exact ⟨(((rd_T33 l0 x11_1).f0)), (wrap64 (x11_1 + 1)), (by first | rfl | (simp; done) | (simp [*]; done)), (by first | rfl | (simp; done) | (simp [*]; done)), H', ⟨by have := HK1.out; have := HJ5.out; omega⟩, ⟨by repeat (first | (with_reducible first | exact HB.out | apply below_alloc | apply pw_below_drewN | apply below_drew1 | refine below_set ?_ GE102.out) | exact HB.out)⟩⟩
            · rw [if_neg c5] at H
              exact absurd H (by simp)
          · rw [if_neg c4] at H
            exact absurd H (by simp)
        · rw [if_neg c3] at H
          have c3b0 : decide (x11_1 < (l0.length : Int)) = false := decide_eq_false c3
          clear c3
          obtain rfl := Option.some.inj H
          go_wp2
          go_ret
          exact ⟨by first | rfl | (simp [errW_none, errW_some] <;> rfl) | (simp [*, errW_none, errW_some] <;> rfl), by repeat (first | (with_reducible first | exact HB.out | apply below_alloc | apply pw_below_drewN | apply below_drew1) | exact HB.out)⟩

end Go.Proofs.YtmnlbedgkjnodaaDoor.QB
