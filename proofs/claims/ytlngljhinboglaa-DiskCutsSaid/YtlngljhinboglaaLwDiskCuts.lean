/- The law DiskCuts: in plain words, and its walk. -/
import Derived.Test.YtlngljhinboglaaDkO
namespace Go.Proofs.Ytlngljhinboglaa.LwDiskCuts
open Go.RowKit Go.WideMaps Go.ChangeMaps Go.MapKept Go.Maps Go.Lib Go.Proofs.YtlngljhinboglaaW.PrintWords Go.Proofs.YtlngljhinboglaaW.PrintLast Go.Proofs.YtlngljhinboglaaW.PrintMore Go.Proofs.Ytlngljhinboglaa.Sl Go.Proofs.Ytlngljhinboglaa.DkP Go.Proofs.Ytlngljhinboglaa.DkS Go.Proofs.Ytlngljhinboglaa.DkW Go.Proofs.Ytlngljhinboglaa.DkT Go.Proofs.Ytlngljhinboglaa.DkV Go.Proofs.Ytlngljhinboglaa.DkC Go.Proofs.Ytlngljhinboglaa.DkM Go.Proofs.Ytlngljhinboglaa.DkN Go.Proofs.Ytlngljhinboglaa.DkO
set_option linter.unusedVariables false
set_option linter.unusedSimpArgs false
abbrev ab : ByteArray := ⟨#[97, 98]⟩
theorem ab_size : ab.size = 2 := rfl
structure Inv (n : Int) (d : DS) (made i : Nat) : Prop where
  ok : Ok d i (2 * i)
  rm : d.room = 65536
  op : d.ops = made
  le : made ≤ i
  ph : (d.dead = false ∧ d.left = max n 0 - made ∧ d.pend.length = made ∧ (made : Int) ≤ max n 0) ∨ (d.dead = true ∧ d.left = -1 ∧ (made : Int) = max n 0)
theorem Inv.start {n keep part : Int} (h1 : n ≤ 9223372036854775807) : Inv n ((DS.new 65536).cut n keep part) 0 0 :=
  ⟨⟨List.Pairwise.nil, List.Pairwise.nil, Nat.le_refl _, Nat.le_refl _, Nat.le_refl _, Nat.le_refl _, Int.le_refl _, Int.le_refl _, by simp only [DS.cut]; omega, by simp only [DS.cut]; omega, fun c hc => by cases hc⟩, rfl, rfl, Nat.le_refl _, .inl ⟨rfl, by simp only [DS.cut]; omega, rfl, by omega⟩⟩
theorem no {d : DS} {a s : ByteArray} (h : fits a = false) : d.append a s = (d, 10) := by unfold DS.append; rw [if_pos h]
theorem Inv.keep {n : Int} {d : DS} {made i : Nat} (h : Inv n d made i) : Inv n d made (i + 1) := ⟨h.ok.mono (by omega) (by omega), h.rm, h.op, by have := h.le; omega, h.ph⟩
theorem yes {n : Int} {d : DS} {made i : Nat} (h : Inv n d made i) (hi : i ≤ 128) {a : ByteArray} (hf : fits a = true) : d.append a ab = d.change (.app a ab) := by
  unfold DS.append
  have := h.ok.tf
  rw [if_neg (by rw [hf]; simp), if_neg (by rw [h.rm, ab_size]; omega)]
theorem okA {n : Int} {d : DS} {made i : Nat} (h : Inv n d made i) {a : ByteArray} (hf : fits a = true) : Ok (d.change (.app a ab)).1 (i + 1) (2 * (i + 1)) :=
  (ok_change h.ok (c := .app a ab) ⟨fits_le hf, by rw [ab_size]; omega⟩).mono (Nat.le_refl _) (by simp only [Ch.size, ab_size]; omega)
theorem more {n : Int} {d : DS} {made i : Nat} (h : Inv n d made i) (hi : i ≤ 128) {a : ByteArray} (hf : fits a = true) (hm : (made : Int) < n) : (d.append a ab).2 = 0 ∧ Inv n (d.append a ab).1 (made + 1) (i + 1) ∧ (d.append a ab).1.pend.length = made + 1 := by
  rw [yes h hi hf]
  have ho := okA h hf
  rcases h.ph with ⟨h1, h2, h3, h4⟩ | ⟨h1, h2, h3⟩
  · have hrd : d.rawD = d := by unfold DS.rawD; rw [if_neg (by omega)]
    have hr : d.raw = ({ d with left := d.left - 1, ops := d.ops + 1 }, 0) := by
      unfold DS.raw
      rw [hrd]
      simp only
      rw [if_neg (by rw [h1]; simp), if_pos (by omega)]
    have hc : d.change (.app a ab) = ({ d with left := d.left - 1, ops := d.ops + 1, pend := d.pend ++ [.app a ab], files := (Ch.app a ab).go ab.size d.files }, 0) := by
      unfold DS.change
      rw [hr]
      rfl
    rw [hc] at ho ⊢
    refine ⟨rfl, ⟨ho, h.rm, ?_, ?_, .inl ⟨h1, ?_, ?_, ?_⟩⟩, ?_⟩
    · have := h.op; simp only; omega
    · have := h.le; omega
    · simp only; omega
    · simp [h3]
    · omega
    · simp [h3]
  · omega
theorem fin {n : Int} {d : DS} {made i : Nat} (h : Inv n d made i) (hi : i ≤ 128) {a : ByteArray} (hf : fits a = true) (hm : ¬ (made : Int) < n) : (d.append a ab).2 = 13 ∧ (d.append a ab).1.dead = true ∧ Inv n (d.append a ab).1 made (i + 1) := by
  rw [yes h hi hf]
  have ho := okA h hf
  rcases h.ph with ⟨h1, h2, h3, h4⟩ | ⟨h1, h2, h3⟩
  · have h0 : d.left = 0 := by omega
    have hrd : d.rawD = d.crash d.keep d.part := by unfold DS.rawD; rw [if_pos h0]
    have hcr : (d.crash d.keep d.part).dead = true ∧ (d.crash d.keep d.part).left = -1 ∧ (d.crash d.keep d.part).ops = d.ops ∧ (d.crash d.keep d.part).room = d.room := by
      unfold DS.crash
      rw [if_neg (by rw [h1]; simp)]
      exact ⟨rfl, rfl, rfl, rfl⟩
    have hr : d.raw = (d.crash d.keep d.part, 13) := by
      unfold DS.raw
      rw [hrd]
      simp only
      rw [if_pos hcr.1]
    have hc : d.change (.app a ab) = (d.crash d.keep d.part, 13) := by
      unfold DS.change
      rw [hr]
      rfl
    rw [hc] at ho ⊢
    exact ⟨rfl, hcr.1, ho, hcr.2.2.2.trans h.rm, hcr.2.2.1.trans h.op, by have := h.le; omega, .inr ⟨hcr.1, hcr.2.1, by omega⟩⟩
  · have hrd : d.rawD = d := by unfold DS.rawD; rw [if_neg (by omega)]
    have hr : d.raw = (d, 13) := by
      unfold DS.raw
      rw [hrd]
      simp only
      rw [if_pos h1]
    have hc : d.change (.app a ab) = (d, 13) := by
      unfold DS.change
      rw [hr]
      rfl
    rw [hc] at ho ⊢
    exact ⟨rfl, h1, ho, h.rm, h.op, by have := h.le; omega, .inr ⟨h1, h2, h3⟩⟩
abbrev again : ByteArray := ⟨#[97, 103, 97, 105, 110]⟩
abbrev emp : ByteArray := ⟨#[]⟩
theorem last {n : Int} {d : DS} {made i : Nat} (h : Inv n d made i) (hi : i ≤ 128) : (d.power.append again emp).2 = 0 := by
  have := h.ok.tf
  unfold DS.append
  rw [if_neg (by decide), if_neg (by simp only [DS.power]; rw [h.rm]; have : emp.size = 0 := rfl; omega)]
  have hrd : d.power.rawD = d.power := by unfold DS.rawD; rw [if_neg (by simp [DS.power])]
  have hr : d.power.raw = ({ d.power with ops := d.ops + 1 }, 0) := by
    unfold DS.raw
    rw [hrd]
    simp only
    rw [if_neg (show ¬ d.power.dead = true by simp [DS.power]), if_neg (show ¬ 0 < d.power.left by simp [DS.power])]
    rfl
  unfold DS.change
  rw [hr]
  rfl
theorem okP {n : Int} {d : DS} {made i : Nat} (h : Inv n d made i) : Ok d.power i (2 * i) := ⟨h.ok.rf, h.ok.rl, h.ok.nf, h.ok.nl, h.ok.tf, h.ok.tl, h.ok.op0, h.ok.op1, by simp [DS.power], by simp [DS.power], h.ok.nm⟩
theorem at_str {w : World} {A : Option Addr} {n : Nat} {xs : List ByteArray} (h : Kd.C Kd.string w A n xs) (i : Nat) (h1 : i < n) : ∃ ad, A = some ad ∧ w.cell? (ad.add i) = some (.string (xs.getD i ByteArray.empty)) := by
  obtain ⟨ad, c, e, _, hK, hc0⟩ := Kd.C_get h ByteArray.empty (i : Int) (by omega) (by omega)
  rw [Int.toNat_natCast] at hK hc0
  have hK2 : c = [.string (xs.getD i ByteArray.empty)] := hK
  have hc : ∀ j u, c[j]? = some u → w.cell? (ad.add (i * 1 + j)) = some u := hc0
  subst hK2
  have := hc 0 _ rfl
  rw [Nat.mul_one] at this
  exact ⟨ad, e, this⟩
set_option maxHeartbeats 8000000 in
set_option maxRecDepth 100000 in
theorem DiskCuts_calls (W : World) (a0 : Option Addr) (cap0 : Nat) (l0 : List ByteArray) (hc0 : l0.length ≤ cap0) (hr0 : Kd.C Kd.string W a0 l0.length l0) (hw0 : ∀ x ∈ l0, x.size ≤ maxLen) (hs0 : l0.length * 16 ≤ 140737488351232) (n : Int) (wn : (Lit.int .i64 n).wf = true) (keep : Int) (wk : (Lit.int .i64 keep).wf = true) (part : Int) (wp : (Lit.int .i64 part).wf = true) :
    Calls Try.prog 3 #[.slice a0 l0.length cap0, .int .i64 n, .int .i64 keep, .int .i64 part] W fun e w' => e = .returned (.bool true) ∧ Below W.heap.size W w' := by
  by_cases hl : l0.length ≤ 128
  rotate_left
  · have d1 : decide ((128 : Int) < (l0.length : Int)) = true := decide_eq_true (by omega)
    have d2 : decide (128 < l0.length) = true := decide_eq_true (by omega)
    go_enter Try.func3, Try.ntmps3
    go_wp2
    go_ret
    exact ⟨rfl, Below.refl _ _⟩
  have d1 : decide ((128 : Int) < (l0.length : Int)) = false := decide_eq_false (by omega)
  have d2 : decide (128 < l0.length) = false := decide_eq_false (by omega)
  have hn1 : n ≤ 9223372036854775807 := by
    simp [Lit.wf, IntKind.min, IntKind.max, IntKind.signed, IntKind.bits] at wn
    omega
  obtain ⟨m, hm⟩ : ∃ m, l0.length = m := ⟨_, rfl⟩
  have HC := Aside0.mk hr0
  have HW := Aside0.mk hw0
  have HM := Aside0.mk hm
  rw [hm] at HC hl d1 d2 hc0 ⊢
  clear hr0 hw0 hs0 hm wn wk wp
  go_enter Try.func3, Try.ntmps3
  go_upto_region 5 with (first | (go_at_call 8; go_loud ((with_reducible refine (New_calls W W [] 65536 (Sat.start W)).mono ?_); rintro e w1 ⟨g, rfl, hs1⟩; have H1 := Aside0.mk hs1; clear hs1)) | (go_at_call 9; go_loud ((with_reducible refine (Cut_calls W w1 [] g (DS.new 65536) n keep part H1.out).mono ?_); rintro e w2 ⟨rfl, hs2⟩; have H2 := Aside0.mk hs2; clear hs2)))
  clear d1 d2 H1
  go_wp2
  go_loopw [10, 11] (fun v10 v11 wr => ∃ (i made : Nat) (d : DS), i ≤ m ∧ v10 = .int .i64 made ∧ v11 = .int .i64 i ∧ Aside0 (Inv n d made i) ∧ Aside0 (Sat W wr (Dk g d :: []))) (fun _ v11 _ => (m - intOf v11).toNat)
  case atStart => exact ⟨0, 0, _, Nat.zero_le _, rfl, rfl, ⟨Inv.start hn1⟩, H2⟩
  case round =>
    obtain ⟨i, made, d, him, rfl, rfl, HI, HS⟩ := hrel
    clear H2
    by_cases hi : i < m
    rotate_left
    · have e1 : decide ((i : Int) < (m : Int)) = false := decide_eq_false (by omega)
      have e2 : decide (i < m) = false := decide_eq_false hi
      have HLa := Aside0.mk (last HI.out (by omega))
      have HOP := Aside0.mk HI.out.op
      have HOK := Aside0.mk (okP HI.out)
      have hiN : i ≤ 128 := by omega
      go_wp2_with (first | (go_at_call 13; go_loud ((with_reducible refine (Ops_calls W wr [] g d HS.out).mono ?_); rintro e w3 ⟨rfl, hw3⟩; rw [hw3, HOP.out]; clear hw3 w3)) | (go_at_call 14; go_loud ((with_reducible refine (Power_calls W wr [] g d HS.out).mono ?_); rintro e w4 ⟨rfl, hs4⟩; have H4 := Aside0.mk hs4; clear hs4)) | (go_at_call 12; go_loud ((with_reducible refine (Dead_calls W w4 [] g d.power H4.out).mono ?_); rintro e w5 ⟨rfl, hw5⟩; rw [hw5, show d.power.dead = false from rfl]; clear hw5 w5)) | (go_at_call 10; go_loud ((with_reducible refine (Append_calls W w4 [] g d.power i (2 * i) again emp (by omega) (by omega) (by decide) (by decide) HOK.out H4.out).mono ?_); rintro e w6 ⟨rfl, hs6⟩; rw [HLa.out]; have H6 := Aside0.mk hs6; clear hs6)))
      go_ret
      exact ⟨by simp, H6.out.below⟩
    have e1 : decide ((i : Int) < (m : Int)) = true := decide_eq_true (by omega)
    have e2 : decide (i < m) = true := decide_eq_true hi
    have i1 : (0 : Int) ≤ (i : Int) := by omega
    have i2 : (i : Int) < (m : Int) := by omega
    have ew : wrap64 ((i : Int) + 1) = ((i + 1 : Nat) : Int) := by unfold wrap64; omega
    have em : wrap64 ((made : Int) + 1) = ((made + 1 : Nat) : Int) := by have := HI.out.le; unfold wrap64; omega
    obtain ⟨ad, hA, q0⟩ := at_str (Kd.C_below HC.out HS.out.below) i hi
    subst hA
    have HWA := Aside0.mk (show (l0.getD i ByteArray.empty).size ≤ maxLen from by
      rw [List.getD_eq_getElem?_getD, List.getElem?_eq_getElem (by have := HM.out; omega)]
      exact HW.out _ (List.getElem_mem _))
    generalize l0.getD i ByteArray.empty = a at q0 HWA
    have hiN : i ≤ 128 := by omega
    have HOK := Aside0.mk HI.out.ok
    by_cases hf : fits a = true
    rotate_left
    · have hf2 : fits a = false := by simpa using hf
      have HNO := Aside0.mk (no (d := d) (s := ab) hf2)
      have hor : ¬ (1 ≤ a.size) ∨ (1 ≤ a.size ∧ ¬ a.size ≤ 40) := by
        unfold fits at hf
        rw [decide_eq_true_iff] at hf
        omega
      rcases hor with hz | ⟨hz1, hz2⟩
      · have k1 : decide ((1 : Int) ≤ (a.size : Int)) = false := decide_eq_false (by omega)
        clear hf hf2 hz
        go_wp2_with (first | (go_at_call 10; go_loud ((with_reducible refine (Append_calls W wr [] g d i (2 * i) a ab (by omega) (by omega) HWA.out (by decide) HOK.out HS.out).mono ?_); rintro e w6 ⟨rfl, hs6⟩; rw [HNO.out] at hs6 ⊢; have H6 := Aside0.mk hs6; clear hs6)))
        go_roundw
        case measure => simp only [intOf]; omega
        case rel => exact ⟨i + 1, made, d, by omega, rfl, by first | rfl | (congr 1; omega), ⟨HI.out.keep⟩, H6⟩
      · have k1 : decide ((1 : Int) ≤ (a.size : Int)) = true := decide_eq_true (by omega)
        have k2 : decide ((a.size : Int) ≤ 40) = false := decide_eq_false (by omega)
        clear hf hf2 hz1 hz2
        go_wp2_with (first | (go_at_call 10; go_loud ((with_reducible refine (Append_calls W wr [] g d i (2 * i) a ab (by omega) (by omega) HWA.out (by decide) HOK.out HS.out).mono ?_); rintro e w6 ⟨rfl, hs6⟩; rw [HNO.out] at hs6 ⊢; have H6 := Aside0.mk hs6; clear hs6)))
        go_roundw
        case measure => simp only [intOf]; omega
        case rel => exact ⟨i + 1, made, d, by omega, rfl, by first | rfl | (congr 1; omega), ⟨HI.out.keep⟩, H6⟩
    have k1 : decide ((1 : Int) ≤ (a.size : Int)) = true := decide_eq_true (by unfold fits at hf; rw [decide_eq_true_iff] at hf; omega)
    have k2 : decide ((a.size : Int) ≤ 40) = true := decide_eq_true (by have := fits_le hf; omega)
    by_cases hmn : (made : Int) < n
    · obtain ⟨h1, h2, h3⟩ := more HI.out hiN hf hmn
      have k3 : decide ((made : Int) < n) = true := decide_eq_true hmn
      obtain ⟨r, hr⟩ : ∃ r, (d.append a ab).1 = r := ⟨_, rfl⟩
      rw [hr] at h2 h3
      have HR := Aside0.mk hr
      have H1r := Aside0.mk h1
      have H2r := Aside0.mk h2
      have H3r := Aside0.mk h3
      clear h1 h2 h3 hr hf hmn
      go_wp2_with (first | (go_at_call 10; go_loud ((with_reducible refine (Append_calls W wr [] g d i (2 * i) a ab (by omega) (by omega) HWA.out (by decide) HOK.out HS.out).mono ?_); rintro e w6 ⟨rfl, hs6⟩; rw [HR.out] at hs6; rw [H1r.out]; have H6 := Aside0.mk hs6; clear hs6)) | (go_at_call 11; go_loud ((with_reducible refine (Pending_calls W w6 [] g r H6.out).mono ?_); rintro e w7 ⟨rfl, hw7⟩; rw [hw7, H3r.out]; clear hw7 w7)))
      go_roundw
      case measure => simp only [intOf]; omega
      case rel => exact ⟨i + 1, made + 1, r, by omega, by first | rfl | (congr 1; omega), by first | rfl | (congr 1; omega), H2r, H6⟩
    · obtain ⟨h1, h2, h3⟩ := fin HI.out hiN hf hmn
      have k3 : decide ((made : Int) < n) = false := decide_eq_false hmn
      obtain ⟨r, hr⟩ : ∃ r, (d.append a ab).1 = r := ⟨_, rfl⟩
      rw [hr] at h2 h3
      have HR := Aside0.mk hr
      have H1r := Aside0.mk h1
      have H2r := Aside0.mk h2
      have H3r := Aside0.mk h3
      clear h1 h2 h3 hr hf hmn
      go_wp2_with (first | (go_at_call 10; go_loud ((with_reducible refine (Append_calls W wr [] g d i (2 * i) a ab (by omega) (by omega) HWA.out (by decide) HOK.out HS.out).mono ?_); rintro e w6 ⟨rfl, hs6⟩; rw [HR.out] at hs6; rw [H1r.out]; have H6 := Aside0.mk hs6; clear hs6)) | (go_at_call 12; go_loud ((with_reducible refine (Dead_calls W w6 [] g r H6.out).mono ?_); rintro e w7 ⟨rfl, hw7⟩; rw [hw7, H2r.out]; clear hw7 w7)))
      go_roundw
      case measure => simp only [intOf]; omega
      case rel => exact ⟨i + 1, made, r, by omega, rfl, by first | rfl | (congr 1; omega), H3r, H6⟩
end Go.Proofs.Ytlngljhinboglaa.LwDiskCuts
