/- What a disk's small calls come to. -/
import Derived.Test.YtlngljhinboglaaDkC
namespace Go.Proofs.Ytlngljhinboglaa.DkM
open Go.RowKit Go.WideMaps Go.ChangeMaps Go.MapKept Go.Maps Go.Lib Go.Proofs.YtlngljhinboglaaW.PrintWords Go.Proofs.YtlngljhinboglaaW.PrintLast Go.Proofs.YtlngljhinboglaaW.PrintMore Go.Proofs.Ytlngljhinboglaa.Sl Go.Proofs.Ytlngljhinboglaa.DkP Go.Proofs.Ytlngljhinboglaa.DkS Go.Proofs.Ytlngljhinboglaa.DkW Go.Proofs.Ytlngljhinboglaa.DkT Go.Proofs.Ytlngljhinboglaa.DkV Go.Proofs.Ytlngljhinboglaa.DkC
set_option linter.unusedVariables false
set_option linter.unusedSimpArgs false
theorem fits_calls (w : World) (a : ByteArray) (ha : a.size ≤ maxLen) :
    Calls Try.prog 28 #[.string a] w fun e w' => e = .returned (.bool (fits a)) ∧ w' = w := by
  by_cases h0 : a.size = 0
  · have e : a = ByteArray.empty := by
      apply ByteArray.ext
      apply Array.eq_empty_of_size_eq_zero
      exact h0
    subst e
    go_enter Try.func28, Try.ntmps28
    go_wp2
    go_ret
    exact ⟨rfl, rfl⟩
  · have hne : ¬ a.toList = [] := by
      rw [ByteArray.toList_eq]
      intro e
      have e2 := congrArg List.length e
      rw [Array.length_toList] at e2
      exact h0 e2
    have he : a.toList.isEmpty = false := by simpa using hne
    have HF := Aside0.mk (show fits a = decide ((a.size : Int) ≤ 40) by unfold fits; rw [Bool.eq_iff_iff, decide_eq_true_iff, decide_eq_true_iff]; omega)
    clear h0
    go_enter Try.func28, Try.ntmps28
    go_wp2
    go_ret
    rw [HF.out]
    exact ⟨by simp [he], rfl⟩
/-- The disk's cells, for a walk. -/
theorem Dk.cell {w0 w : World} {L : List Asn} {g : Nat} {d : DS} (h : Sat w0 w (Dk g d :: L)) : w.cell? ⟨g, 0, none⟩ = some (.int .i64 d.room) ∧ w.cell? ⟨g, 1, none⟩ = some (.int .i64 (tot d.files : Nat)) ∧ w.cell? ⟨g, 5, none⟩ = some (.int .i64 d.ops) ∧ w.cell? ⟨g, 6, none⟩ = some (.int .i64 d.left) ∧ w.cell? ⟨g, 7, none⟩ = some (.int .i64 d.keep) ∧ w.cell? ⟨g, 8, none⟩ = some (.int .i64 d.part) ∧ w.cell? ⟨g, 9, none⟩ = some (.bool d.dead) := by
  obtain ⟨fb, lb, A, c, ps, _, _, h1⟩ := Dk.open h
  exact ⟨h1.cell 0 rfl, h1.cell 1 rfl, h1.cell 5 rfl, h1.cell 6 rfl, h1.cell 7 rfl, h1.cell 8 rfl, h1.cell 9 rfl⟩
theorem Dk.free {w0 w : World} {L : List Asn} {g : Nat} {d : DS} (h : Sat w0 w (Dk g d :: L)) (j : Nat) : w.frozen? ⟨g, j, none⟩ = false := by
  obtain ⟨fb, lb, A, c, ps, _, _, h1⟩ := Dk.open h
  exact h1.free j
/-- A field that is no slice and no map is stored. -/
theorem Dk.set {w0 w : World} {L : List Asn} {g : Nat} {d : DS} (h : Sat w0 w (Dk g d :: L)) (j : Nat) (u : Value) {d' : DS} (hf : d'.files = d.files) (hl : d'.lasting = d.lasting) (hp : d'.pend = d.pend) (hc : ∀ fb lb pv, (cellsOf d fb lb pv).setIfInBounds j u = cellsOf d' fb lb pv) : Sat w0 (w.setCell ⟨g, j, none⟩ u) (Dk g d' :: L) := by
  obtain ⟨fb, lb, A, c, ps, _, _, h1⟩ := Dk.open h
  have h2 := h1.setBlk j u
  rw [hc] at h2
  refine Dk.mk (fb := fb) (lb := lb) (pv := .slice A d.pend.length c) (ps := ps) ?_
  rw [hf, hl, hp]
  exact h2
theorem Used_calls (w0 w : World) (L : List Asn) (g : Nat) (d : DS) (h : Sat w0 w (Dk g d :: L)) : Calls Try.prog 16 #[.pointer (some ⟨g, 0, none⟩)] w fun e w' => e = .returned (.int .i64 (tot d.files : Nat)) ∧ w' = w := by
  obtain ⟨x0, x1, x5, x6, x7, x8, x9⟩ := Dk.cell h
  go_enter Try.func16, Try.ntmps16
  go_wp2
  go_ret
  exact ⟨rfl, rfl⟩
theorem Ops_calls (w0 w : World) (L : List Asn) (g : Nat) (d : DS) (h : Sat w0 w (Dk g d :: L)) : Calls Try.prog 13 #[.pointer (some ⟨g, 0, none⟩)] w fun e w' => e = .returned (.int .i64 d.ops) ∧ w' = w := by
  obtain ⟨x0, x1, x5, x6, x7, x8, x9⟩ := Dk.cell h
  go_enter Try.func13, Try.ntmps13
  go_wp2
  go_ret
  exact ⟨rfl, rfl⟩
theorem Dead_calls (w0 w : World) (L : List Asn) (g : Nat) (d : DS) (h : Sat w0 w (Dk g d :: L)) : Calls Try.prog 12 #[.pointer (some ⟨g, 0, none⟩)] w fun e w' => e = .returned (.bool d.dead) ∧ w' = w := by
  obtain ⟨x0, x1, x5, x6, x7, x8, x9⟩ := Dk.cell h
  go_enter Try.func12, Try.ntmps12
  go_wp2
  go_ret
  exact ⟨rfl, rfl⟩
theorem Pending_calls (w0 w : World) (L : List Asn) (g : Nat) (d : DS) (h : Sat w0 w (Dk g d :: L)) : Calls Try.prog 11 #[.pointer (some ⟨g, 0, none⟩)] w fun e w' => e = .returned (.int .i64 d.pend.length) ∧ w' = w := by
  obtain ⟨fb, lb, A, c, ps, _, _, h1⟩ := Dk.open h
  have x4 := h1.cell 4 (v := .slice A d.pend.length c) rfl
  clear h h1
  go_enter Try.func11, Try.ntmps11
  go_wp2
  go_ret
  exact ⟨rfl, rfl⟩
theorem Power_calls (w0 w : World) (L : List Asn) (g : Nat) (d : DS) (h : Sat w0 w (Dk g d :: L)) : Calls Try.prog 14 #[.pointer (some ⟨g, 0, none⟩)] w fun e w' => e = .returned (.tuple #[]) ∧ Sat w0 w' (Dk g d.power :: L) := by
  obtain ⟨x0, x1, x5, x6, x7, x8, x9⟩ := Dk.cell h
  have f6 := Dk.free h 6
  have f9 := Dk.free h 9
  have HS := Aside0.mk h
  clear h
  go_enter Try.func14, Try.ntmps14
  go_wp2
  go_end0
  refine ⟨rfl, ?_⟩
  have h1 := Dk.set HS.out 9 (.bool false) (d' := { d with dead := false }) rfl rfl rfl (fun _ _ _ => rfl)
  exact Dk.set h1 6 (.int .i64 (-1)) (d' := d.power) rfl rfl rfl (fun _ _ _ => rfl)
attribute [local go_sem] max2_int max_two in
theorem Cut_calls (w0 w : World) (L : List Asn) (g : Nat) (d : DS) (n keep part : Int) (h : Sat w0 w (Dk g d :: L)) : Calls Try.prog 9 #[.pointer (some ⟨g, 0, none⟩), .int .i64 n, .int .i64 keep, .int .i64 part] w fun e w' => e = .returned (.tuple #[]) ∧ Sat w0 w' (Dk g (d.cut n keep part) :: L) := by
  obtain ⟨x0, x1, x5, x6, x7, x8, x9⟩ := Dk.cell h
  have f6 := Dk.free h 6
  have f7 := Dk.free h 7
  have f8 := Dk.free h 8
  have key : ∀ z, z = max n 0 → Sat w0 (((w.setCell ⟨g, 6, none⟩ (.int .i64 z)).setCell ⟨g, 7, none⟩ (.int .i64 keep)).setCell ⟨g, 8, none⟩ (.int .i64 part)) (Dk g (d.cut n keep part) :: L) := by
    rintro z rfl
    have h1 := Dk.set h 6 (.int .i64 (max n 0)) (d' := { d with left := max n 0 }) rfl rfl rfl (fun _ _ _ => rfl)
    have h2 := Dk.set h1 7 (.int .i64 keep) (d' := { d with left := max n 0, keep := keep }) rfl rfl rfl (fun _ _ _ => rfl)
    exact Dk.set h2 8 (.int .i64 part) (d' := d.cut n keep part) rfl rfl rfl (fun _ _ _ => rfl)
  have HK := Aside0.mk key
  clear h key
  go_enter Try.func9, Try.ntmps9
  go_wp2
  all_goals go_end0
  all_goals exact ⟨rfl, HK.out _ (by omega)⟩
def Dr.T2 : Bool × List (List Nat × List Nat) := (true, [([], []), ([], []), ([1], [1]), ([2], [2]), ([3], [3]), ([], []), ([5], [5]), ([6], [6]), ([7], [7]), ([0, 4, 8], [0, 4, 8])])
def Dr.B2 : List Nat := [0, 0, 2, 6, 14, 0, 32, 96, 224, 511]
theorem Dr.tab2 : rtab .any (opsOf Try.f39 2) = Dr.T2 := by kernel_rfl
theorem Dr.bits2 : waitsOk Dr.T2.2 Dr.B2 = true := by kernel_rfl
set_option maxHeartbeats 4000000 in
set_option maxRecDepth 100000 in
theorem raw_calls (w0 w : World) (L : List Asn) (g : Nat) (d : DS) (N S : Nat) (hN : N ≤ 100000) (hS : S ≤ 68719476736) (ok : Ok d N S) (h : Sat w0 w (Dk g d :: L)) :
    Calls Try.prog 39 #[.pointer (some ⟨g, 0, none⟩)] w fun e w' => e = .returned (.int .i64 d.raw.2) ∧ Sat w0 w' (Dk g d.raw.1 :: L) := by
  obtain ⟨x0, x1, x5, x6, x7, x8, x9⟩ := Dk.cell h
  have OK := Aside0.mk ok
  have HS := Aside0.mk h
  by_cases hl : d.left = 0
  · have hc0 : (d.left == 0) = true := beq_iff_eq.2 hl
    have hdc : (d.crash d.keep d.part).dead = true := by unfold DS.crash; split <;> simp_all
    have HR := Aside0.mk (show d.raw = (d.crash d.keep d.part, 13) from by unfold DS.raw DS.rawD; rw [if_pos hl]; simp only; rw [if_pos hdc])
    clear ok h x9 hl
    go_enter Try.func39, Try.ntmps39
    go_upto_region 2 with (fail)
    clear x0 x1 x5 x6
    refine start_ (n := 10) (S := fun w' => w'.cell? ⟨g, 7, none⟩ = some (.int .i64 d.keep) ∧ w'.cell? ⟨g, 8, none⟩ = some (.int .i64 d.part)) (ds := [9]) #[false, false, false, false, false, false, false, false, false, false] (by kernel_rfl) rfl rfl ⟨x7, x8⟩ (fun hHeld => ?_)
    refine with_tabW Dr.tab2 Dr.bits2 (fun HT_ HW_ => ?_)
    refine pure_ (i := 0) (N := some 8) (v := ?_) (a' := ?_) #[true, false, false, false, false, false, false, false, false, false] rfl rfl (any_of HT_.out (by kernel_rfl)) (fun _ _ _ h => h) (Or.inl ⟨by rfl, ?_⟩) ?_ ?_
    rotate_left
    · intro w'
      go_simp
      with_reducible rfl
    rotate_left
    · simp only [Act.put, List.setIfInBounds_toArray, List.set_cons_zero, List.set_cons_succ, i64_w, i32_w]
      rfl
    refine pure_ (i := 1) (N := some 9) (v := ?_) (a' := ?_) #[true, true, false, false, false, false, false, false, false, false] rfl rfl (any_of HT_.out (by kernel_rfl)) (fun _ _ _ h => h) (Or.inl ⟨by rfl, ?_⟩) ?_ ?_
    rotate_left
    · intro w'
      go_simp
      with_reducible rfl
    rotate_left
    · simp only [Act.put, List.setIfInBounds_toArray, List.set_cons_zero, List.set_cons_succ, i64_w, i32_w]
      rfl
    refine pure_ (i := 2) (N := some 10) (v := ?_) (a' := ?_) #[true, true, true, false, false, false, false, false, false, false] rfl rfl (any_of HT_.out (by kernel_rfl)) (fun _ _ _ h => h) (Or.inl ⟨by rfl, ?_⟩) ?_ ?_
    rotate_left
    · intro w'
      go_simp
      with_reducible rfl
    rotate_left
    · simp only [Act.put, List.setIfInBounds_toArray, List.set_cons_zero, List.set_cons_succ, i64_w, i32_w]
      rfl
    refine pure_ (i := 3) (N := some 11) (v := ?_) (a' := ?_) #[true, true, true, true, false, false, false, false, false, false] rfl rfl (any_of HT_.out (by kernel_rfl)) (fun _ _ _ h => h) (Or.inl ⟨by rfl, ?_⟩) ?_ ?_
    rotate_left
    · intro w'
      go_simp
      with_reducible rfl
    rotate_left
    · simp only [Act.put, List.setIfInBounds_toArray, List.set_cons_zero, List.set_cons_succ, i64_w, i32_w]
      rfl
    refine pure_ (i := 5) (N := some 13) (v := ?_) (a' := ?_) #[true, true, true, true, false, true, false, false, false, false] rfl rfl (any_of HT_.out (by kernel_rfl)) (fun _ _ _ h => h) (Or.inl ⟨by rfl, ?_⟩) ?_ ?_
    rotate_left
    · intro w'
      go_simp
      with_reducible rfl
    rotate_left
    · simp only [Act.put, List.setIfInBounds_toArray, List.set_cons_zero, List.set_cons_succ, i64_w, i32_w]
      rfl
    refine pure_ (i := 6) (N := some 14) (v := ?_) (a' := ?_) #[true, true, true, true, false, true, true, false, false, false] rfl rfl (any_of HT_.out (by kernel_rfl)) (fun _ _ _ h => h) (Or.inl ⟨by rfl, ?_⟩) ?_ ?_
    rotate_left
    · intro w'
      go_simp
      with_reducible rfl
    rotate_left
    · simp only [Act.put, List.setIfInBounds_toArray, List.set_cons_zero, List.set_cons_succ, i64_w, i32_w]
      rfl
    refine pure_ (i := 7) (N := some 15) (v := ?_) (a' := ?_) #[true, true, true, true, false, true, true, true, false, false] rfl rfl (any_of HT_.out (by kernel_rfl)) (fun _ _ _ h => h) (Or.inl ⟨by rfl, ?_⟩) ?_ ?_
    rotate_left
    · intro w'
      go_simp
      with_reducible rfl
    rotate_left
    · simp only [Act.put, List.setIfInBounds_toArray, List.set_cons_zero, List.set_cons_succ, i64_w, i32_w]
      rfl
    refine take_ (i := 4) (N := some 12) (v := ?_) (a' := ?_) #[true, true, true, true, true, true, true, true, false, false] rfl rfl (take_ofW HT_.out HW_.out (by kernel_rfl)) (fun _ _ _ h => h) (Or.inl ⟨by rfl, ?_⟩) hHeld ?_ ?_
    rotate_left
    · rintro w' ⟨s0, s1⟩
      go_simp
      with_reducible rfl
    rotate_left
    · simp only [Act.put, List.setIfInBounds_toArray, List.set_cons_zero, List.set_cons_succ, i64_w, i32_w]
      rfl
    refine take_ (i := 8) (N := some 16) (v := ?_) (a' := ?_) #[true, true, true, true, true, true, true, true, true, false] rfl rfl (take_ofW HT_.out HW_.out (by kernel_rfl)) (fun _ _ _ h => h) (Or.inl ⟨by rfl, ?_⟩) hHeld ?_ ?_
    rotate_left
    · rintro w' ⟨s0, s1⟩
      go_simp
      with_reducible rfl
    rotate_left
    · simp only [Act.put, List.setIfInBounds_toArray, List.set_cons_zero, List.set_cons_succ, i64_w, i32_w]
      rfl
    refine last_ (i := 9) (N := some 17) #[true, true, true, true, true, true, true, true, true, true] rfl rfl (one_of HT_.out (by kernel_rfl)) (by decide) (fun K hK => ?_)
    refine goes_ Try.func23 (by kernel_rfl) rfl #[.pointer (some ⟨g, 0, none⟩), .int .i64 d.keep, .int .i64 d.part] (by rfl) rfl rfl (by simp only [List.map_toArray, List.map_cons, List.map_nil]; rfl) ?_
    with_reducible refine (crash_calls w0 _ _ g d N S d.keep d.part hN hS OK.out HS.out.drew).mono ?_
    rintro e w3 ⟨rfl, hs3⟩
    refine ⟨_, rfl, ?_⟩
    have HS3 := Aside0.mk hs3
    clear hs3
    refine hK.out _ _ ?_
    clear hK K
    refine norm_ (a' := ?_) ?_ ?_
    rotate_left
    · show Act.put _ (some 17) _ = _
      simp only [Act.put, List.setIfInBounds_toArray, List.set_cons_zero, List.set_cons_succ, i64_w, i32_w]
      rfl
    refine done_ (done_of HT_.out (by kernel_rfl)) ?_
    obtain ⟨_, _, _, _, _, _, z9⟩ := Dk.cell HS3.out
    rw [hdc] at z9
    go_wp2
    go_ret
    rw [HR.out]
    exact ⟨rfl, HS3.out⟩
  · have hc0 : (d.left == 0) = false := beq_eq_false_iff_ne.2 hl
    have hrd : d.rawD = d := by unfold DS.rawD; rw [if_neg hl]
    by_cases hd : d.dead = true
    · have HR := Aside0.mk (show d.raw = (d, 13) from by unfold DS.raw; rw [hrd]; simp only; rw [if_pos hd])
      rw [hd] at x9
      clear ok h hl hrd hd
      go_enter Try.func39, Try.ntmps39
      go_wp2
      go_ret
      rw [HR.out]
      exact ⟨rfl, HS.out⟩
    · have hdf : d.dead = false := by simpa using hd
      rw [hdf] at x9
      have f5 := Dk.free h 5
      have f6 := Dk.free h 6
      have ho : wrap64 (d.ops + 1) = d.ops + 1 := by have := ok.op0; have := ok.op1; unfold wrap64; omega
      by_cases hp : 0 < d.left
      · have hpd : decide (0 < d.left) = true := decide_eq_true hp
        have hw : wrap64 (d.left - 1) = d.left - 1 := by have := ok.l1; unfold wrap64; omega
        have HR := Aside0.mk (show d.raw = ({ d with left := d.left - 1, ops := d.ops + 1 }, 0) from by unfold DS.raw; rw [hrd]; simp only; rw [if_neg hd, if_pos hp])
        clear ok h hl hrd hd hdf hp
        go_enter Try.func39, Try.ntmps39
        go_wp2
        go_ret
        rw [HR.out]
        refine ⟨rfl, ?_⟩
        have h1 := Dk.set HS.out 6 (.int .i64 (d.left - 1)) (d' := { d with left := d.left - 1 }) rfl rfl rfl (fun _ _ _ => rfl)
        exact Dk.set h1 5 (.int .i64 (d.ops + 1)) (d' := { d with left := d.left - 1, ops := d.ops + 1 }) rfl rfl rfl (fun _ _ _ => rfl)
      · have hpd : decide (0 < d.left) = false := decide_eq_false hp
        have HR := Aside0.mk (show d.raw = ({ d with ops := d.ops + 1 }, 0) from by unfold DS.raw; rw [hrd]; simp only; rw [if_neg hd, if_neg hp])
        clear ok h hl hrd hd hdf hp
        go_enter Try.func39, Try.ntmps39
        go_wp2
        go_ret
        rw [HR.out]
        refine ⟨rfl, ?_⟩
        exact Dk.set HS.out 5 (.int .i64 (d.ops + 1)) (d' := { d with ops := d.ops + 1 }) rfl rfl rfl (fun _ _ _ => rfl)
end Go.Proofs.Ytlngljhinboglaa.DkM
