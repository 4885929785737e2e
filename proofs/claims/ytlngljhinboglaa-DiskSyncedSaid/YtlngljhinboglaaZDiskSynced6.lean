/- What a disk's calls come to.
   A disk whose power nobody cuts, in plain words. -/
import Derived.Test.YtlngljhinboglaaZDiskSynced5
import Derived.Test.YtlngljhinboglaaZDiskSynced3
namespace Go.Proofs.Ytlngljhinboglaa.DkO
open Go.RowKit Go.WideMaps Go.ChangeMaps Go.MapKept Go.Maps Go.Lib Go.Proofs.YtlngljhinboglaaW.PrintWords Go.Proofs.YtlngljhinboglaaW.PrintLast Go.Proofs.YtlngljhinboglaaW.PrintMore Go.Proofs.Ytlngljhinboglaa.Sl Go.Proofs.Ytlngljhinboglaa.DkP Go.Proofs.Ytlngljhinboglaa.DkS Go.Proofs.Ytlngljhinboglaa.DkW Go.Proofs.Ytlngljhinboglaa.DkT Go.Proofs.Ytlngljhinboglaa.DkV Go.Proofs.Ytlngljhinboglaa.DkC Go.Proofs.Ytlngljhinboglaa.DkM Go.Proofs.Ytlngljhinboglaa.DkN
set_option linter.unusedVariables false
set_option linter.unusedSimpArgs false
theorem Cap1.app {w0 w : World} {L : List Asn} {x y : Nat} {a s : ByteArray} (h : Sat w0 w (Blk y #[.string s] 9 :: Blk x #[.string a] 9 :: L)) : Sat w0 w (Cap1 ((.func 30, #[.pointer (some ⟨x, 0, none⟩), .pointer (some ⟨y, 0, none⟩)]), true, (s.size : Int)) (.app a s) :: L) := by
  have h1 := Sat.closed (L1 := [Blk y #[.string s] 9, Blk x #[.string a] 9]) h
  refine h1.imp fun G hg => ?_
  obtain ⟨G1, h2, h3, G2, h4, h5, _⟩ := hg
  exact ⟨x, y, rfl, (h5 x h4.1).1, h3 y h2.1, h4.2, h2.2⟩
theorem Cap1.ren {w0 w : World} {L : List Asn} {x y : Nat} {a s : ByteArray} (h : Sat w0 w (Blk y #[.string s] 9 :: Blk x #[.string a] 9 :: L)) : Sat w0 w (Cap1 ((.func 46, #[.pointer (some ⟨x, 0, none⟩), .pointer (some ⟨y, 0, none⟩)]), false, 0) (.ren a s) :: L) := by
  have h1 := Sat.closed (L1 := [Blk y #[.string s] 9, Blk x #[.string a] 9]) h
  refine h1.imp fun G hg => ?_
  obtain ⟨G1, h2, h3, G2, h4, h5, _⟩ := hg
  exact ⟨x, y, rfl, (h5 x h4.1).1, h3 y h2.1, h4.2, h2.2⟩
theorem Cap1.rem {w0 w : World} {L : List Asn} {x : Nat} {a : ByteArray} (h : Sat w0 w (Blk x #[.string a] 9 :: L)) : Sat w0 w (Cap1 ((.func 32, #[.pointer (some ⟨x, 0, none⟩)]), false, 0) (.rem a) :: L) :=
  h.imp fun G hg => ⟨x, rfl, hg.1, hg.2⟩
theorem fits_le {a : ByteArray} (h : fits a = true) : a.size ≤ 40 := (of_decide_eq_true h).2
def Dap.T3 : Bool × List (List Nat × List Nat) := (true, [([], []), ([0], [0]), ([1], [1]), ([2], [2]), ([], []), ([4], [4]), ([3, 5], [3, 5]), ([], []), ([7], [7]), ([8], [8]), ([9], [9]), ([6, 10], [6, 10]), ([11], [11])])
def Dap.B3 : List Nat := [0, 1, 3, 7, 0, 16, 63, 0, 128, 384, 896, 2047, 4095]
theorem Dap.tab3 : rtab .any (opsOf Try.f10 3) = Dap.T3 := by kernel_rfl
theorem Dap.bits3 : waitsOk Dap.T3.2 Dap.B3 = true := by kernel_rfl
set_option maxHeartbeats 8000000 in
set_option maxRecDepth 100000 in
theorem Append_calls (w0 w : World) (L : List Asn) (g : Nat) (d : DS) (N S : Nat) (a s : ByteArray) (hN : N ≤ 99999) (hS : S ≤ 68719476736) (ha : a.size ≤ maxLen) (hs : s.size ≤ 68719476736) (ok : Ok d N S) (h : Sat w0 w (Dk g d :: L)) :
    Calls Try.prog 10 #[.pointer (some ⟨g, 0, none⟩), .string a, .string s] w fun e w' => e = .returned (.int .i64 (d.append a s).2) ∧ Sat w0 w' (Dk g (d.append a s).1 :: L) := by
  have h1 := (h.newBlk #[.string a] 9).newBlk #[.string s] 9
  obtain ⟨x, hx⟩ : ∃ x, w.heap.size = x := ⟨_, rfl⟩
  have hy : (w.alloc (.cells #[.string a] 9)).heap.size = x + 1 := by rw [alloc_size, hx]
  rw [hy, hx] at h1
  have H1 := Aside0.mk h1
  have OK := Aside0.mk ok
  have hfu : tot d.files ≤ 68719476736 := by have := ok.tf; omega
  clear h h1 ok hy
  go_enter Try.func10, Try.ntmps10
  go_upto_block 0 with (fail)
  clear hx
  generalize (w.alloc (.cells #[.string a] 9)).alloc (.cells #[.string s] 9) = w1 at H1 ⊢
  have z0 := (H1.out.nth 1 rfl).cell 0 (v := .string a) rfl
  have y0 := H1.out.cell 0 (v := .string s) rfl
  obtain ⟨x0, x1, _, _, _, _, _⟩ := Dk.cell (H1.out.nth 2 rfl)
  by_cases hf : fits a = false
  · have HR := Aside0.mk (show d.append a s = (d, 10) from by unfold DS.append; rw [if_pos hf])
    have hf2 := hf
    go_wp2_with (first | (go_at_call 28; go_loud ((with_reducible refine (fits_calls _ a ha).mono ?_); rintro e w2 ⟨rfl, hw2⟩; rw [hw2, hf2]; clear hw2 w2)))
    go_ret
    rw [HR.out]
    exact ⟨rfl, (show Sat w0 w1 (Blk (x + 1) _ 9 :: Blk x _ 9 :: Dk g d :: L) from H1.out).tail.tail⟩
  have hf2 : fits a = true := by simpa using hf
  have HFA := Aside0.mk (fits_le hf2)
  have ew : wrap64 ((tot d.files : Int) + (s.size : Int)) = (tot d.files : Int) + (s.size : Int) := by unfold wrap64; omega
  by_cases hr : d.room < (tot d.files : Int) + s.size
  · have HR := Aside0.mk (show d.append a s = (d, 12) from by unfold DS.append; rw [if_neg hf, if_pos hr])
    have d1 : decide (d.room < (tot d.files : Int) + (s.size : Int)) = true := decide_eq_true hr
    clear hf hr
    go_upto_region 3 with (first | (go_at_call 28; go_loud ((with_reducible refine (fits_calls _ a ha).mono ?_); rintro e w2 ⟨rfl, hw2⟩; rw [hw2, hf2]; clear hw2 w2)))
    refine start_ (n := 13) (S := fun w' => w'.cell? ⟨x + 1, 0, none⟩ = some (.string s) ∧ w'.cell? ⟨g, 1, none⟩ = some (.int .i64 (tot d.files : Nat)) ∧ w'.cell? ⟨g, 0, none⟩ = some (.int .i64 d.room)) (ds := []) #[false, false, false, false, false, false, false, false, false, false, false, false, false] (by kernel_rfl) rfl rfl ⟨y0, x1, x0⟩ (fun hHeld => ?_)
    refine with_tabW Dap.tab3 Dap.bits3 (fun HT_ HW_ => ?_)
    refine pure_ (i := 0) (N := some 12) (v := ?_) (a' := ?_) #[true, false, false, false, false, false, false, false, false, false, false, false, false] rfl rfl (any_of HT_.out (by kernel_rfl)) (fun _ _ _ h => h) (Or.inl ⟨by rfl, ?_⟩) ?_ ?_
    rotate_left
    · intro w'
      go_simp
      with_reducible rfl
    rotate_left
    · simp only [Act.put, List.setIfInBounds_toArray, List.set_cons_zero, List.set_cons_succ, i64_w, i32_w]
      rfl
    refine pure_ (i := 1) (N := some 13) (v := ?_) (a' := ?_) #[true, true, false, false, false, false, false, false, false, false, false, false, false] rfl rfl (any_of HT_.out (by kernel_rfl)) (fun _ _ _ h => h) (Or.inl ⟨by rfl, ?_⟩) ?_ ?_
    rotate_left
    · intro w'
      go_simp
      with_reducible rfl
    rotate_left
    · simp only [Act.put, List.setIfInBounds_toArray, List.set_cons_zero, List.set_cons_succ, i64_w, i32_w]
      rfl
    refine pure_ (i := 2) (N := some 14) (v := ?_) (a' := ?_) #[true, true, true, false, false, false, false, false, false, false, false, false, false] rfl rfl (any_of HT_.out (by kernel_rfl)) (fun _ _ _ h => h) (Or.inl ⟨by rfl, ?_⟩) ?_ ?_
    rotate_left
    · intro w'
      go_simp
      with_reducible rfl
    rotate_left
    · simp only [Act.put, List.setIfInBounds_toArray, List.set_cons_zero, List.set_cons_succ, i64_w, i32_w]
      rfl
    refine pure_ (i := 7) (N := some 19) (v := ?_) (a' := ?_) #[true, true, true, false, false, false, false, true, false, false, false, false, false] rfl rfl (any_of HT_.out (by kernel_rfl)) (fun _ _ _ h => h) (Or.inl ⟨by rfl, ?_⟩) ?_ ?_
    rotate_left
    · intro w'
      go_simp
      with_reducible rfl
    rotate_left
    · simp only [Act.put, List.setIfInBounds_toArray, List.set_cons_zero, List.set_cons_succ, i64_w, i32_w]
      rfl
    refine pure_ (i := 8) (N := some 20) (v := ?_) (a' := ?_) #[true, true, true, false, false, false, false, true, true, false, false, false, false] rfl rfl (any_of HT_.out (by kernel_rfl)) (fun _ _ _ h => h) (Or.inl ⟨by rfl, ?_⟩) ?_ ?_
    rotate_left
    · intro w'
      go_simp
      with_reducible rfl
    rotate_left
    · simp only [Act.put, List.setIfInBounds_toArray, List.set_cons_zero, List.set_cons_succ, i64_w, i32_w]
      rfl
    refine pure_ (i := 9) (N := some 21) (v := ?_) (a' := ?_) #[true, true, true, false, false, false, false, true, true, true, false, false, false] rfl rfl (any_of HT_.out (by kernel_rfl)) (fun _ _ _ h => h) (Or.inl ⟨by rfl, ?_⟩) ?_ ?_
    rotate_left
    · intro w'
      go_simp
      with_reducible rfl
    rotate_left
    · simp only [Act.put, List.setIfInBounds_toArray, List.set_cons_zero, List.set_cons_succ, i64_w, i32_w]
      rfl
    refine take_ (i := 3) (N := some 15) (v := ?_) (a' := ?_) #[true, true, true, true, false, false, false, true, true, true, false, false, false] rfl rfl (take_ofW HT_.out HW_.out (by kernel_rfl)) (fun _ _ _ h => h) (Or.inl ⟨by rfl, ?_⟩) hHeld ?_ ?_
    rotate_left
    · rintro w' ⟨s0, s1, s2⟩
      go_simp
      with_reducible rfl
    rotate_left
    · simp only [Act.put, List.setIfInBounds_toArray, List.set_cons_zero, List.set_cons_succ, i64_w, i32_w]
      rfl
    refine take_ (i := 4) (N := some 16) (v := ?_) (a' := ?_) #[true, true, true, true, true, false, false, true, true, true, false, false, false] rfl rfl (take_ofW HT_.out HW_.out (by kernel_rfl)) (fun _ _ _ h => h) (Or.inl ⟨by rfl, ?_⟩) hHeld ?_ ?_
    rotate_left
    · rintro w' ⟨s0, s1, s2⟩
      go_simp
      with_reducible rfl
    rotate_left
    · simp only [Act.put, List.setIfInBounds_toArray, List.set_cons_zero, List.set_cons_succ, i64_w, i32_w]
      rfl
    refine pure_ (i := 5) (N := some 17) (v := ?_) (a' := ?_) #[true, true, true, true, true, true, false, true, true, true, false, false, false] rfl rfl (any_of HT_.out (by kernel_rfl)) (fun _ _ _ h => h) (Or.inl ⟨by rfl, ?_⟩) ?_ ?_
    rotate_left
    · intro w'
      go_simp
      with_reducible rfl
    rotate_left
    · simp only [Act.put, List.setIfInBounds_toArray, List.set_cons_zero, List.set_cons_succ, i64_w, i32_w]
      rfl
    refine pure_ (i := 6) (N := some 18) (v := ?_) (a' := ?_) #[true, true, true, true, true, true, true, true, true, true, false, false, false] rfl rfl (any_of HT_.out (by kernel_rfl)) (fun _ _ _ h => h) (Or.inl ⟨by rfl, ?_⟩) ?_ ?_
    rotate_left
    · intro w'
      go_simp
      with_reducible rfl
    rotate_left
    · simp only [Act.put, List.setIfInBounds_toArray, List.set_cons_zero, List.set_cons_succ, i64_w, i32_w]
      rfl
    refine take_ (i := 10) (N := some 22) (v := ?_) (a' := ?_) #[true, true, true, true, true, true, true, true, true, true, true, false, false] rfl rfl (take_ofW HT_.out HW_.out (by kernel_rfl)) (fun _ _ _ h => h) (Or.inl ⟨by rfl, ?_⟩) hHeld ?_ ?_
    rotate_left
    · rintro w' ⟨s0, s1, s2⟩
      go_simp
      with_reducible rfl
    rotate_left
    · simp only [Act.put, List.setIfInBounds_toArray, List.set_cons_zero, List.set_cons_succ, i64_w, i32_w]
      rfl
    refine pure_ (i := 11) (N := some 23) (v := ?_) (a' := ?_) #[true, true, true, true, true, true, true, true, true, true, true, true, false] rfl rfl (any_of HT_.out (by kernel_rfl)) (fun _ _ _ h => h) (Or.inl ⟨by rfl, ?_⟩) ?_ ?_
    rotate_left
    · intro w'
      go_simp
      with_reducible rfl
    rotate_left
    · simp only [Act.put, List.setIfInBounds_toArray, List.set_cons_zero, List.set_cons_succ, i64_w, i32_w]
      rfl
    refine pure_ (i := 12) (N := some 11) (v := ?_) (a' := ?_) #[true, true, true, true, true, true, true, true, true, true, true, true, true] rfl rfl (any_of HT_.out (by kernel_rfl)) (fun _ _ _ h => h) (Or.inl ⟨by rfl, ?_⟩) ?_ ?_
    rotate_left
    · intro w'
      go_simp
      with_reducible rfl
    rotate_left
    · simp only [Act.put, List.setIfInBounds_toArray, List.set_cons_zero, List.set_cons_succ, i64_w, i32_w]
      rfl
    refine done_ (done_of HT_.out (by kernel_rfl)) ?_
    go_wp2
    go_ret
    rw [HR.out]
    exact ⟨rfl, (show Sat w0 _ (Blk (x + 1) _ 9 :: Blk x _ 9 :: Dk g d :: L) from H1.out.drew).tail.tail⟩
  · have HR := Aside0.mk (show d.append a s = d.change (.app a s) from by unfold DS.append; rw [if_neg hf, if_neg hr])
    have d1 : decide (d.room < (tot d.files : Int) + (s.size : Int)) = false := decide_eq_false hr
    clear hf hr
    go_upto_region 3 with (first | (go_at_call 28; go_loud ((with_reducible refine (fits_calls _ a ha).mono ?_); rintro e w2 ⟨rfl, hw2⟩; rw [hw2, hf2]; clear hw2 w2)))
    refine start_ (n := 13) (S := fun w' => w'.cell? ⟨x + 1, 0, none⟩ = some (.string s) ∧ w'.cell? ⟨g, 1, none⟩ = some (.int .i64 (tot d.files : Nat)) ∧ w'.cell? ⟨g, 0, none⟩ = some (.int .i64 d.room)) (ds := []) #[false, false, false, false, false, false, false, false, false, false, false, false, false] (by kernel_rfl) rfl rfl ⟨y0, x1, x0⟩ (fun hHeld => ?_)
    refine with_tabW Dap.tab3 Dap.bits3 (fun HT_ HW_ => ?_)
    refine pure_ (i := 0) (N := some 12) (v := ?_) (a' := ?_) #[true, false, false, false, false, false, false, false, false, false, false, false, false] rfl rfl (any_of HT_.out (by kernel_rfl)) (fun _ _ _ h => h) (Or.inl ⟨by rfl, ?_⟩) ?_ ?_
    rotate_left
    · intro w'
      go_simp
      with_reducible rfl
    rotate_left
    · simp only [Act.put, List.setIfInBounds_toArray, List.set_cons_zero, List.set_cons_succ, i64_w, i32_w]
      rfl
    refine pure_ (i := 1) (N := some 13) (v := ?_) (a' := ?_) #[true, true, false, false, false, false, false, false, false, false, false, false, false] rfl rfl (any_of HT_.out (by kernel_rfl)) (fun _ _ _ h => h) (Or.inl ⟨by rfl, ?_⟩) ?_ ?_
    rotate_left
    · intro w'
      go_simp
      with_reducible rfl
    rotate_left
    · simp only [Act.put, List.setIfInBounds_toArray, List.set_cons_zero, List.set_cons_succ, i64_w, i32_w]
      rfl
    refine pure_ (i := 2) (N := some 14) (v := ?_) (a' := ?_) #[true, true, true, false, false, false, false, false, false, false, false, false, false] rfl rfl (any_of HT_.out (by kernel_rfl)) (fun _ _ _ h => h) (Or.inl ⟨by rfl, ?_⟩) ?_ ?_
    rotate_left
    · intro w'
      go_simp
      with_reducible rfl
    rotate_left
    · simp only [Act.put, List.setIfInBounds_toArray, List.set_cons_zero, List.set_cons_succ, i64_w, i32_w]
      rfl
    refine pure_ (i := 7) (N := some 19) (v := ?_) (a' := ?_) #[true, true, true, false, false, false, false, true, false, false, false, false, false] rfl rfl (any_of HT_.out (by kernel_rfl)) (fun _ _ _ h => h) (Or.inl ⟨by rfl, ?_⟩) ?_ ?_
    rotate_left
    · intro w'
      go_simp
      with_reducible rfl
    rotate_left
    · simp only [Act.put, List.setIfInBounds_toArray, List.set_cons_zero, List.set_cons_succ, i64_w, i32_w]
      rfl
    refine pure_ (i := 8) (N := some 20) (v := ?_) (a' := ?_) #[true, true, true, false, false, false, false, true, true, false, false, false, false] rfl rfl (any_of HT_.out (by kernel_rfl)) (fun _ _ _ h => h) (Or.inl ⟨by rfl, ?_⟩) ?_ ?_
    rotate_left
    · intro w'
      go_simp
      with_reducible rfl
    rotate_left
    · simp only [Act.put, List.setIfInBounds_toArray, List.set_cons_zero, List.set_cons_succ, i64_w, i32_w]
      rfl
    refine pure_ (i := 9) (N := some 21) (v := ?_) (a' := ?_) #[true, true, true, false, false, false, false, true, true, true, false, false, false] rfl rfl (any_of HT_.out (by kernel_rfl)) (fun _ _ _ h => h) (Or.inl ⟨by rfl, ?_⟩) ?_ ?_
    rotate_left
    · intro w'
      go_simp
      with_reducible rfl
    rotate_left
    · simp only [Act.put, List.setIfInBounds_toArray, List.set_cons_zero, List.set_cons_succ, i64_w, i32_w]
      rfl
    refine take_ (i := 3) (N := some 15) (v := ?_) (a' := ?_) #[true, true, true, true, false, false, false, true, true, true, false, false, false] rfl rfl (take_ofW HT_.out HW_.out (by kernel_rfl)) (fun _ _ _ h => h) (Or.inl ⟨by rfl, ?_⟩) hHeld ?_ ?_
    rotate_left
    · rintro w' ⟨s0, s1, s2⟩
      go_simp
      with_reducible rfl
    rotate_left
    · simp only [Act.put, List.setIfInBounds_toArray, List.set_cons_zero, List.set_cons_succ, i64_w, i32_w]
      rfl
    refine take_ (i := 4) (N := some 16) (v := ?_) (a' := ?_) #[true, true, true, true, true, false, false, true, true, true, false, false, false] rfl rfl (take_ofW HT_.out HW_.out (by kernel_rfl)) (fun _ _ _ h => h) (Or.inl ⟨by rfl, ?_⟩) hHeld ?_ ?_
    rotate_left
    · rintro w' ⟨s0, s1, s2⟩
      go_simp
      with_reducible rfl
    rotate_left
    · simp only [Act.put, List.setIfInBounds_toArray, List.set_cons_zero, List.set_cons_succ, i64_w, i32_w]
      rfl
    refine pure_ (i := 5) (N := some 17) (v := ?_) (a' := ?_) #[true, true, true, true, true, true, false, true, true, true, false, false, false] rfl rfl (any_of HT_.out (by kernel_rfl)) (fun _ _ _ h => h) (Or.inl ⟨by rfl, ?_⟩) ?_ ?_
    rotate_left
    · intro w'
      go_simp
      with_reducible rfl
    rotate_left
    · simp only [Act.put, List.setIfInBounds_toArray, List.set_cons_zero, List.set_cons_succ, i64_w, i32_w]
      rfl
    refine pure_ (i := 6) (N := some 18) (v := ?_) (a' := ?_) #[true, true, true, true, true, true, true, true, true, true, false, false, false] rfl rfl (any_of HT_.out (by kernel_rfl)) (fun _ _ _ h => h) (Or.inl ⟨by rfl, ?_⟩) ?_ ?_
    rotate_left
    · intro w'
      go_simp
      with_reducible rfl
    rotate_left
    · simp only [Act.put, List.setIfInBounds_toArray, List.set_cons_zero, List.set_cons_succ, i64_w, i32_w]
      rfl
    refine take_ (i := 10) (N := some 22) (v := ?_) (a' := ?_) #[true, true, true, true, true, true, true, true, true, true, true, false, false] rfl rfl (take_ofW HT_.out HW_.out (by kernel_rfl)) (fun _ _ _ h => h) (Or.inl ⟨by rfl, ?_⟩) hHeld ?_ ?_
    rotate_left
    · rintro w' ⟨s0, s1, s2⟩
      go_simp
      with_reducible rfl
    rotate_left
    · simp only [Act.put, List.setIfInBounds_toArray, List.set_cons_zero, List.set_cons_succ, i64_w, i32_w]
      rfl
    refine pure_ (i := 11) (N := some 23) (v := ?_) (a' := ?_) #[true, true, true, true, true, true, true, true, true, true, true, true, false] rfl rfl (any_of HT_.out (by kernel_rfl)) (fun _ _ _ h => h) (Or.inl ⟨by rfl, ?_⟩) ?_ ?_
    rotate_left
    · intro w'
      go_simp
      with_reducible rfl
    rotate_left
    · simp only [Act.put, List.setIfInBounds_toArray, List.set_cons_zero, List.set_cons_succ, i64_w, i32_w]
      rfl
    refine pure_ (i := 12) (N := some 11) (v := ?_) (a' := ?_) #[true, true, true, true, true, true, true, true, true, true, true, true, true] rfl rfl (any_of HT_.out (by kernel_rfl)) (fun _ _ _ h => h) (Or.inl ⟨by rfl, ?_⟩) ?_ ?_
    rotate_left
    · intro w'
      go_simp
      with_reducible rfl
    rotate_left
    · simp only [Act.put, List.setIfInBounds_toArray, List.set_cons_zero, List.set_cons_succ, i64_w, i32_w]
      rfl
    refine done_ (done_of HT_.out (by kernel_rfl)) ?_
    have H2 := Aside0.mk (show Sat w0 w1.drew (Dk g d :: Cap1 ((.func 30, #[.pointer (some ⟨x, 0, none⟩), .pointer (some ⟨x + 1, 0, none⟩)]), true, (s.size : Int)) (.app a s) :: L) from (Cap1.app (show Sat w0 w1.drew (Blk (x + 1) _ 9 :: Blk x _ 9 :: Dk g d :: L) from H1.out.drew)).nth 1 rfl)
    have HFT := Aside0.mk (show DkV.Fit (.app a s) from ⟨HFA.out, hs⟩)
    go_wp2_with (first | (go_at_call 29; go_loud ((with_reducible refine (change_calls w0 _ _ g d N S (.app a s) ((.func 30, #[.pointer (some ⟨x, 0, none⟩), .pointer (some ⟨x + 1, 0, none⟩)]), true, (s.size : Int)) hN hS OK.out HFT.out H2.out).mono ?_); rintro e w3 ⟨rfl, hs3⟩; have H3 := Aside0.mk hs3; clear hs3)))
    go_ret
    rw [HR.out]
    exact ⟨rfl, H3.out⟩
def Drm.T3 : Bool × List (List Nat × List Nat) := (true, [([], []), ([0], [0]), ([1], [1]), ([2], [2]), ([], []), ([3, 4], [3, 4]), ([5], [5]), ([6], [6]), ([6], [6]), ([7, 0, 1, 2, 3, 4, 5, 6, 7], [7]), ([8, 9, 0, 1, 2, 3, 4, 5, 6, 7, 8, 9], [8])])
def Drm.B3 : List Nat := [0, 1, 3, 7, 0, 31, 63, 127, 127, 255, 1023]
theorem Drm.tab3 : rtab .any (opsOf Try.f17 3) = Drm.T3 := by kernel_rfl
theorem Drm.bits3 : waitsOk Drm.T3.2 Drm.B3 = true := by kernel_rfl
set_option maxHeartbeats 8000000 in
set_option maxRecDepth 100000 in
theorem Remove_calls (w0 w : World) (L : List Asn) (g : Nat) (d : DS) (N S : Nat) (a : ByteArray) (hN : N ≤ 99999) (hS : S ≤ 68719476736) (ha : a.size ≤ maxLen) (ok : Ok d N S) (h : Sat w0 w (Dk g d :: L)) :
    Calls Try.prog 17 #[.pointer (some ⟨g, 0, none⟩), .string a] w fun e w' => e = .returned (.int .i64 (d.remove a).2) ∧ Sat w0 w' (Dk g (d.remove a).1 :: L) := by
  have h1 := h.newBlk #[.string a] 9
  have H1 := Aside0.mk h1
  have OK := Aside0.mk ok
  clear h h1 ok
  go_enter Try.func17, Try.ntmps17
  go_upto_region 1 with (fail)
  generalize w.alloc (.cells #[.string a] 9) = w1 at H1 ⊢
  generalize w.heap.size = x at H1 ⊢
  have y0 := H1.out.cell 0 (v := .string a) rfl
  obtain ⟨fb, lb, A, c, ps, _, _, h2⟩ := Dk.open (H1.out.nth 1 rfl)
  have x2 := h2.cell 2 (v := .map (some fb)) rfl
  by_cases hf : fits a = false
  · have HR := Aside0.mk (show d.remove a = (d, 10) from by unfold DS.remove; rw [if_pos hf])
    have hf2 := hf
    go_wp2_with (first | (go_at_call 28; go_loud ((with_reducible refine (fits_calls _ a ha).mono ?_); rintro e w2 ⟨rfl, hw2⟩; rw [hw2, hf2]; clear hw2 w2)))
    go_ret
    rw [HR.out]
    exact ⟨rfl, H1.out.tail⟩
  have hf2 : fits a = true := by simpa using hf
  have HFA := Aside0.mk (fits_le hf2)
  obtain ⟨v, _, hlk, _⟩ := Store.look (h2.drew.nth 1 rfl) (b := fb) (f := d.files) (by simp) (a := a) (by have := HFA.out; simp only [maxLen]; omega)
  obtain ⟨bb, hbb⟩ : ∃ bb, (get (nm a) d.files).isSome = bb := ⟨_, rfl⟩
  rw [hbb] at hlk
  clear h2
  go_upto_region 3 with (first | (go_at_call 28; go_loud ((with_reducible refine (fits_calls _ a ha).mono ?_); rintro e w2 ⟨rfl, hw2⟩; rw [hw2, hf2]; clear hw2 w2)))
  refine start_ (n := 11) (S := fun w' => w'.cell? ⟨x, 0, none⟩ = some (.string a) ∧ w'.cell? ⟨g, 2, none⟩ = some (.map (some fb)) ∧ (Instr.lookup 53 (.map (some fb)) (.string a) true).run Try.prog w' = .ok (.tuple #[v, .bool bb]) w') (ds := []) #[false, false, false, false, false, false, false, false, false, false, false] (by kernel_rfl) rfl rfl ⟨y0, x2, hlk⟩ (fun hHeld => ?_)
  refine with_tabW Drm.tab3 Drm.bits3 (fun HT_ HW_ => ?_)
  refine pure_ (i := 0) (N := some 11) (v := ?_) (a' := ?_) #[true, false, false, false, false, false, false, false, false, false, false] rfl rfl (any_of HT_.out (by kernel_rfl)) (fun _ _ _ h => h) (Or.inl ⟨by rfl, ?_⟩) ?_ ?_
  rotate_left
  · intro w'
    go_simp
    with_reducible rfl
  rotate_left
  · simp only [Act.put, List.setIfInBounds_toArray, List.set_cons_zero, List.set_cons_succ, i64_w, i32_w]
    rfl
  refine pure_ (i := 1) (N := some 12) (v := ?_) (a' := ?_) #[true, true, false, false, false, false, false, false, false, false, false] rfl rfl (any_of HT_.out (by kernel_rfl)) (fun _ _ _ h => h) (Or.inl ⟨by rfl, ?_⟩) ?_ ?_
  rotate_left
  · intro w'
    go_simp
    with_reducible rfl
  rotate_left
  · simp only [Act.put, List.setIfInBounds_toArray, List.set_cons_zero, List.set_cons_succ, i64_w, i32_w]
    rfl
  refine pure_ (i := 2) (N := some 13) (v := ?_) (a' := ?_) #[true, true, true, false, false, false, false, false, false, false, false] rfl rfl (any_of HT_.out (by kernel_rfl)) (fun _ _ _ h => h) (Or.inl ⟨by rfl, ?_⟩) ?_ ?_
  rotate_left
  · intro w'
    go_simp
    with_reducible rfl
  rotate_left
  · simp only [Act.put, List.setIfInBounds_toArray, List.set_cons_zero, List.set_cons_succ, i64_w, i32_w]
    rfl
  refine take_ (i := 3) (N := some 14) (v := ?_) (a' := ?_) #[true, true, true, true, false, false, false, false, false, false, false] rfl rfl (take_ofW HT_.out HW_.out (by kernel_rfl)) (fun _ _ _ h => h) (Or.inl ⟨by rfl, ?_⟩) hHeld ?_ ?_
  rotate_left
  · rintro w' ⟨s0, s1, s2⟩
    go_simp
    with_reducible rfl
  rotate_left
  · simp only [Act.put, List.setIfInBounds_toArray, List.set_cons_zero, List.set_cons_succ, i64_w, i32_w]
    rfl
  refine take_ (i := 4) (N := some 15) (v := ?_) (a' := ?_) #[true, true, true, true, true, false, false, false, false, false, false] rfl rfl (take_ofW HT_.out HW_.out (by kernel_rfl)) (fun _ _ _ h => h) (Or.inl ⟨by rfl, ?_⟩) hHeld ?_ ?_
  rotate_left
  · rintro w' ⟨s0, s1, s2⟩
    go_simp
    with_reducible rfl
  rotate_left
  · simp only [Act.put, List.setIfInBounds_toArray, List.set_cons_zero, List.set_cons_succ, i64_w, i32_w]
    rfl
  refine take_ (i := 5) (N := some 16) (v := ?_) (a' := ?_) #[true, true, true, true, true, true, false, false, false, false, false] rfl rfl (take_ofW HT_.out HW_.out (by kernel_rfl)) (fun _ _ _ h => h) (Or.inl ⟨by rfl, ?_⟩) hHeld ?_ ?_
  rotate_left
  · rintro w' ⟨s0, s1, s2⟩
    go_simp
    with_reducible rfl
  rotate_left
  · simp only [Act.put, List.setIfInBounds_toArray, List.set_cons_zero, List.set_cons_succ, i64_w, i32_w]
    rfl
  refine pure_ (i := 6) (N := some 10) (v := ?_) (a' := ?_) #[true, true, true, true, true, true, true, false, false, false, false] rfl rfl (any_of HT_.out (by kernel_rfl)) (fun _ _ _ h => h) (Or.inl ⟨by rfl, ?_⟩) ?_ ?_
  rotate_left
  · intro w'
    go_simp
    with_reducible rfl
  rotate_left
  · simp only [Act.put, List.setIfInBounds_toArray, List.set_cons_zero, List.set_cons_succ, i64_w, i32_w]
    rfl
  refine pure_ (i := 7) (N := some 17) (v := ?_) (a' := ?_) #[true, true, true, true, true, true, true, true, false, false, false] rfl rfl (any_of HT_.out (by kernel_rfl)) (fun _ _ _ h => h) (Or.inl ⟨by rfl, ?_⟩) ?_ ?_
  rotate_left
  · intro w'
    go_simp
    with_reducible rfl
  rotate_left
  · simp only [Act.put, List.setIfInBounds_toArray, List.set_cons_zero, List.set_cons_succ, i64_w, i32_w]
    rfl
  refine pure_ (i := 8) (N := some 18) (v := ?_) (a' := ?_) #[true, true, true, true, true, true, true, true, true, false, false] rfl rfl (any_of HT_.out (by kernel_rfl)) (fun _ _ _ h => h) (Or.inl ⟨by rfl, ?_⟩) ?_ ?_
  rotate_left
  · intro w'
    go_simp
    with_reducible rfl
  rotate_left
  · simp only [Act.put, List.setIfInBounds_toArray, List.set_cons_zero, List.set_cons_succ, i64_w, i32_w]
    rfl
  refine pure_ (i := 9) (N := some 5) (v := ?_) (a' := ?_) #[true, true, true, true, true, true, true, true, true, true, false] rfl rfl (any_of HT_.out (by kernel_rfl)) (fun _ _ _ h => h) (Or.inl ⟨by rfl, ?_⟩) ?_ ?_
  rotate_left
  · intro w'
    go_simp
    with_reducible rfl
  rotate_left
  · simp only [Act.put, List.setIfInBounds_toArray, List.set_cons_zero, List.set_cons_succ, i64_w, i32_w]
    rfl
  refine pure_ (i := 10) (N := some 6) (v := ?_) (a' := ?_) #[true, true, true, true, true, true, true, true, true, true, true] rfl rfl (any_of HT_.out (by kernel_rfl)) (fun _ _ _ h => h) (Or.inl ⟨by rfl, ?_⟩) ?_ ?_
  rotate_left
  · intro w'
    go_simp
    with_reducible rfl
  rotate_left
  · simp only [Act.put, List.setIfInBounds_toArray, List.set_cons_zero, List.set_cons_succ, i64_w, i32_w]
    rfl
  refine done_ (done_of HT_.out (by kernel_rfl)) ?_
  cases bb with
  | false =>
    have HR := Aside0.mk (show d.remove a = (d, 11) from by unfold DS.remove; rw [if_neg hf, if_pos (by simpa using hbb)])
    clear hf hbb
    go_wp2
    go_ret
    rw [HR.out]
    exact ⟨rfl, H1.out.drew.tail⟩
  | true =>
    have HR := Aside0.mk (show d.remove a = d.change (.rem a) from by unfold DS.remove; rw [if_neg hf, if_neg (by intro e; rw [e] at hbb; cases hbb)])
    clear hf hbb
    have H2 := Aside0.mk (show Sat w0 w1.drew (Dk g d :: Cap1 ((.func 32, #[.pointer (some ⟨x, 0, none⟩)]), false, 0) (.rem a) :: L) from (Cap1.rem H1.out.drew).nth 1 rfl)
    have HFT := Aside0.mk (show DkV.Fit (.rem a) from HFA.out)
    go_wp2_with (first | (go_at_call 29; go_loud ((with_reducible refine (change_calls w0 _ _ g d N S (.rem a) ((.func 32, #[.pointer (some ⟨x, 0, none⟩)]), false, 0) hN hS OK.out HFT.out H2.out).mono ?_); rintro e w3 ⟨rfl, hs3⟩; have H3 := Aside0.mk hs3; clear hs3)))
    go_ret
    rw [HR.out]
    exact ⟨rfl, H3.out⟩
def Drn.T3 : Bool × List (List Nat × List Nat) := (true, [([], []), ([0], [0]), ([1], [1]), ([2], [2]), ([], []), ([3, 4], [3, 4]), ([5], [5]), ([6], [6]), ([6], [6]), ([7, 0, 1, 2, 3, 4, 5, 6, 7], [7]), ([8, 9, 0, 1, 2, 3, 4, 5, 6, 7, 8, 9], [8])])
def Drn.B3 : List Nat := [0, 1, 3, 7, 0, 31, 63, 127, 127, 255, 1023]
theorem Drn.tab3 : rtab .any (opsOf Try.f27 3) = Drn.T3 := by kernel_rfl
theorem Drn.bits3 : waitsOk Drn.T3.2 Drn.B3 = true := by kernel_rfl
set_option maxHeartbeats 8000000 in
set_option maxRecDepth 100000 in
theorem Rename_calls (w0 w : World) (L : List Asn) (g : Nat) (d : DS) (N S : Nat) (a s : ByteArray) (hN : N ≤ 99999) (hS : S ≤ 68719476736) (ha : a.size ≤ maxLen) (hs : s.size ≤ maxLen) (ok : Ok d N S) (h : Sat w0 w (Dk g d :: L)) :
    Calls Try.prog 27 #[.pointer (some ⟨g, 0, none⟩), .string a, .string s] w fun e w' => e = .returned (.int .i64 (d.rename a s).2) ∧ Sat w0 w' (Dk g (d.rename a s).1 :: L) := by
  have h1 := (h.newBlk #[.string a] 9).newBlk #[.string s] 9
  obtain ⟨x, hx⟩ : ∃ x, w.heap.size = x := ⟨_, rfl⟩
  have hy : (w.alloc (.cells #[.string a] 9)).heap.size = x + 1 := by rw [alloc_size, hx]
  rw [hy, hx] at h1
  have H1 := Aside0.mk h1
  have OK := Aside0.mk ok
  clear h h1 ok hy
  go_enter Try.func27, Try.ntmps27
  go_upto_region 1 with (fail)
  clear hx
  generalize (w.alloc (.cells #[.string a] 9)).alloc (.cells #[.string s] 9) = w1 at H1 ⊢
  have y0 := (H1.out.nth 1 rfl).cell 0 (v := .string a) rfl
  have z0 := H1.out.cell 0 (v := .string s) rfl
  obtain ⟨fb, lb, A, c, ps, _, _, h2⟩ := Dk.open (H1.out.nth 2 rfl)
  have x2 := h2.cell 2 (v := .map (some fb)) rfl
  by_cases hf : fits a = false
  · have HR := Aside0.mk (show d.rename a s = (d, 10) from by unfold DS.rename; rw [if_pos (.inl hf)])
    clear h2
    have hf2 := hf
    go_wp2_with (first | (go_at_call 28; go_loud ((with_reducible refine (fits_calls _ a ha).mono ?_); rintro e w2 ⟨rfl, hw2⟩; rw [hw2, hf2]; clear hw2 w2)))
    go_ret
    rw [HR.out]
    exact ⟨rfl, H1.out.tail.tail⟩
  have hf2 : fits a = true := by simpa using hf
  have HFA := Aside0.mk (fits_le hf2)
  by_cases hfs : fits s = false
  · have HR := Aside0.mk (show d.rename a s = (d, 10) from by unfold DS.rename; rw [if_pos (.inr hfs)])
    clear h2
    have hf3 := hfs
    go_wp2_with (first | (go_at_call 28; go_loud (first | ((with_reducible refine (fits_calls _ a ha).mono ?_); rintro e w2 ⟨rfl, hw2⟩; rw [hw2, hf2]; clear hw2 w2) | ((with_reducible refine (fits_calls _ s hs).mono ?_); rintro e w2 ⟨rfl, hw2⟩; rw [hw2, hf3]; clear hw2 w2))))
    go_ret
    rw [HR.out]
    exact ⟨rfl, H1.out.tail.tail⟩
  have hf3 : fits s = true := by simpa using hfs
  have HFS := Aside0.mk (fits_le hf3)
  obtain ⟨v, _, hlk, _⟩ := Store.look (h2.drew.nth 1 rfl) (b := fb) (f := d.files) (by simp) (a := a) (by have := HFA.out; simp only [maxLen]; omega)
  obtain ⟨bb, hbb⟩ : ∃ bb, (get (nm a) d.files).isSome = bb := ⟨_, rfl⟩
  rw [hbb] at hlk
  clear h2
  have HNO := Aside0.mk (show ¬ (fits a = false ∨ fits s = false) from fun h => h.elim hf hfs)
  clear hf hfs
  go_upto_region 3 with (first | (go_at_call 28; go_loud (first | ((with_reducible refine (fits_calls _ a ha).mono ?_); rintro e w2 ⟨rfl, hw2⟩; rw [hw2, hf2]; clear hw2 w2) | ((with_reducible refine (fits_calls _ s hs).mono ?_); rintro e w2 ⟨rfl, hw2⟩; rw [hw2, hf3]; clear hw2 w2))))
  refine start_ (n := 11) (S := fun w' => w'.cell? ⟨x, 0, none⟩ = some (.string a) ∧ w'.cell? ⟨g, 2, none⟩ = some (.map (some fb)) ∧ (Instr.lookup 53 (.map (some fb)) (.string a) true).run Try.prog w' = .ok (.tuple #[v, .bool bb]) w') (ds := []) #[false, false, false, false, false, false, false, false, false, false, false] (by kernel_rfl) rfl rfl ⟨y0, x2, hlk⟩ (fun hHeld => ?_)
  refine with_tabW Drn.tab3 Drn.bits3 (fun HT_ HW_ => ?_)
  refine pure_ (i := 0) (N := some 18) (v := ?_) (a' := ?_) #[true, false, false, false, false, false, false, false, false, false, false] rfl rfl (any_of HT_.out (by kernel_rfl)) (fun _ _ _ h => h) (Or.inl ⟨by rfl, ?_⟩) ?_ ?_
  rotate_left
  · intro w'
    go_simp
    with_reducible rfl
  rotate_left
  · simp only [Act.put, List.setIfInBounds_toArray, List.set_cons_zero, List.set_cons_succ, i64_w, i32_w]
    rfl
  refine pure_ (i := 1) (N := some 19) (v := ?_) (a' := ?_) #[true, true, false, false, false, false, false, false, false, false, false] rfl rfl (any_of HT_.out (by kernel_rfl)) (fun _ _ _ h => h) (Or.inl ⟨by rfl, ?_⟩) ?_ ?_
  rotate_left
  · intro w'
    go_simp
    with_reducible rfl
  rotate_left
  · simp only [Act.put, List.setIfInBounds_toArray, List.set_cons_zero, List.set_cons_succ, i64_w, i32_w]
    rfl
  refine pure_ (i := 2) (N := some 20) (v := ?_) (a' := ?_) #[true, true, true, false, false, false, false, false, false, false, false] rfl rfl (any_of HT_.out (by kernel_rfl)) (fun _ _ _ h => h) (Or.inl ⟨by rfl, ?_⟩) ?_ ?_
  rotate_left
  · intro w'
    go_simp
    with_reducible rfl
  rotate_left
  · simp only [Act.put, List.setIfInBounds_toArray, List.set_cons_zero, List.set_cons_succ, i64_w, i32_w]
    rfl
  refine take_ (i := 3) (N := some 21) (v := ?_) (a' := ?_) #[true, true, true, true, false, false, false, false, false, false, false] rfl rfl (take_ofW HT_.out HW_.out (by kernel_rfl)) (fun _ _ _ h => h) (Or.inl ⟨by rfl, ?_⟩) hHeld ?_ ?_
  rotate_left
  · rintro w' ⟨s0, s1, s2⟩
    go_simp
    with_reducible rfl
  rotate_left
  · simp only [Act.put, List.setIfInBounds_toArray, List.set_cons_zero, List.set_cons_succ, i64_w, i32_w]
    rfl
  refine take_ (i := 4) (N := some 22) (v := ?_) (a' := ?_) #[true, true, true, true, true, false, false, false, false, false, false] rfl rfl (take_ofW HT_.out HW_.out (by kernel_rfl)) (fun _ _ _ h => h) (Or.inl ⟨by rfl, ?_⟩) hHeld ?_ ?_
  rotate_left
  · rintro w' ⟨s0, s1, s2⟩
    go_simp
    with_reducible rfl
  rotate_left
  · simp only [Act.put, List.setIfInBounds_toArray, List.set_cons_zero, List.set_cons_succ, i64_w, i32_w]
    rfl
  refine take_ (i := 5) (N := some 23) (v := ?_) (a' := ?_) #[true, true, true, true, true, true, false, false, false, false, false] rfl rfl (take_ofW HT_.out HW_.out (by kernel_rfl)) (fun _ _ _ h => h) (Or.inl ⟨by rfl, ?_⟩) hHeld ?_ ?_
  rotate_left
  · rintro w' ⟨s0, s1, s2⟩
    go_simp
    with_reducible rfl
  rotate_left
  · simp only [Act.put, List.setIfInBounds_toArray, List.set_cons_zero, List.set_cons_succ, i64_w, i32_w]
    rfl
  refine pure_ (i := 6) (N := some 17) (v := ?_) (a' := ?_) #[true, true, true, true, true, true, true, false, false, false, false] rfl rfl (any_of HT_.out (by kernel_rfl)) (fun _ _ _ h => h) (Or.inl ⟨by rfl, ?_⟩) ?_ ?_
  rotate_left
  · intro w'
    go_simp
    with_reducible rfl
  rotate_left
  · simp only [Act.put, List.setIfInBounds_toArray, List.set_cons_zero, List.set_cons_succ, i64_w, i32_w]
    rfl
  refine pure_ (i := 7) (N := some 24) (v := ?_) (a' := ?_) #[true, true, true, true, true, true, true, true, false, false, false] rfl rfl (any_of HT_.out (by kernel_rfl)) (fun _ _ _ h => h) (Or.inl ⟨by rfl, ?_⟩) ?_ ?_
  rotate_left
  · intro w'
    go_simp
    with_reducible rfl
  rotate_left
  · simp only [Act.put, List.setIfInBounds_toArray, List.set_cons_zero, List.set_cons_succ, i64_w, i32_w]
    rfl
  refine pure_ (i := 8) (N := some 25) (v := ?_) (a' := ?_) #[true, true, true, true, true, true, true, true, true, false, false] rfl rfl (any_of HT_.out (by kernel_rfl)) (fun _ _ _ h => h) (Or.inl ⟨by rfl, ?_⟩) ?_ ?_
  rotate_left
  · intro w'
    go_simp
    with_reducible rfl
  rotate_left
  · simp only [Act.put, List.setIfInBounds_toArray, List.set_cons_zero, List.set_cons_succ, i64_w, i32_w]
    rfl
  refine pure_ (i := 9) (N := some 7) (v := ?_) (a' := ?_) #[true, true, true, true, true, true, true, true, true, true, false] rfl rfl (any_of HT_.out (by kernel_rfl)) (fun _ _ _ h => h) (Or.inl ⟨by rfl, ?_⟩) ?_ ?_
  rotate_left
  · intro w'
    go_simp
    with_reducible rfl
  rotate_left
  · simp only [Act.put, List.setIfInBounds_toArray, List.set_cons_zero, List.set_cons_succ, i64_w, i32_w]
    rfl
  refine pure_ (i := 10) (N := some 8) (v := ?_) (a' := ?_) #[true, true, true, true, true, true, true, true, true, true, true] rfl rfl (any_of HT_.out (by kernel_rfl)) (fun _ _ _ h => h) (Or.inl ⟨by rfl, ?_⟩) ?_ ?_
  rotate_left
  · intro w'
    go_simp
    with_reducible rfl
  rotate_left
  · simp only [Act.put, List.setIfInBounds_toArray, List.set_cons_zero, List.set_cons_succ, i64_w, i32_w]
    rfl
  refine done_ (done_of HT_.out (by kernel_rfl)) ?_
  cases bb with
  | false =>
    have HR := Aside0.mk (show d.rename a s = (d, 11) from by unfold DS.rename; rw [if_neg HNO.out, if_pos (by simpa using hbb)])
    clear hbb
    go_wp2
    go_ret
    rw [HR.out]
    exact ⟨rfl, H1.out.drew.tail.tail⟩
  | true =>
    have HR := Aside0.mk (show d.rename a s = d.change (.ren a s) from by unfold DS.rename; rw [if_neg HNO.out, if_neg (by intro e; rw [e] at hbb; cases hbb)])
    clear hbb
    have H2 := Aside0.mk (show Sat w0 w1.drew (Dk g d :: Cap1 ((.func 46, #[.pointer (some ⟨x, 0, none⟩), .pointer (some ⟨x + 1, 0, none⟩)]), false, 0) (.ren a s) :: L) from (Cap1.ren (show Sat w0 w1.drew (Blk (x + 1) _ 9 :: Blk x _ 9 :: Dk g d :: L) from H1.out.drew)).nth 1 rfl)
    have HFT := Aside0.mk (show DkV.Fit (.ren a s) from ⟨HFA.out, HFS.out⟩)
    go_wp2_with (first | (go_at_call 29; go_loud ((with_reducible refine (change_calls w0 _ _ g d N S (.ren a s) ((.func 46, #[.pointer (some ⟨x, 0, none⟩), .pointer (some ⟨x + 1, 0, none⟩)]), false, 0) hN hS OK.out HFT.out H2.out).mono ?_); rintro e w3 ⟨rfl, hs3⟩; have H3 := Aside0.mk hs3; clear hs3)))
    go_ret
    rw [HR.out]
    exact ⟨rfl, H3.out⟩
set_option maxHeartbeats 8000000 in
set_option maxRecDepth 100000 in
theorem Sync_calls (w0 w : World) (L : List Asn) (g : Nat) (d : DS) (N S : Nat) (hN : N ≤ 99999) (hS : S ≤ 68719476736) (ok : Ok d N S) (h : Sat w0 w (Dk g d :: L)) :
    Calls Try.prog 20 #[.pointer (some ⟨g, 0, none⟩)] w fun e w' => e = .returned (.int .i64 d.sync.2) ∧ Sat w0 w' (Dk g d.sync.1 :: L) := by
  have H1 := Aside0.mk h
  have OK := Aside0.mk ok
  clear h ok
  go_enter Try.func20, Try.ntmps20
  go_upto_region 2 with (first | (go_at_call 39; go_loud ((with_reducible refine (raw_calls w0 w _ g d N S (by omega) hS OK.out H1.out).mono ?_); rintro e w2 ⟨rfl, hs2⟩; have H1b := Aside0.mk hs2; clear hs2)))
  by_cases hr : d.raw.2 = 0
  rotate_left
  · have c0 : (d.raw.2 == 0) = false := beq_eq_false_iff_ne.2 hr
    have HR := Aside0.mk (show d.sync = d.raw from by unfold DS.sync; simp only; rw [if_neg hr])
    clear hr
    go_wp2
    go_ret
    rw [HR.out]
    exact ⟨rfl, H1b.out⟩
  obtain ⟨r, hrr⟩ : ∃ r, d.raw.1 = r := ⟨_, rfl⟩
  have HR := Aside0.mk (show d.sync = ({ r with pend := [], lasting := r.files }, 0) from by unfold DS.sync; simp only; rw [if_pos hr, hrr])
  have c0 : (d.raw.2 == 0) = true := beq_iff_eq.2 hr
  rw [hrr] at H1b
  rw [hr]
  rw [hr] at c0
  clear hr hrr
  obtain ⟨fb, lb, A, cc, ps, hpl, hpc, h2⟩ := Dk.open H1b.out
  obtain ⟨es, clock, hb, h3⟩ := Store.clone (h2.nth 1 rfl) (b := fb) (f := r.files) (by simp)
  have x2 := h2.cell 2 (v := .map (some fb)) rfl
  have h4 := h3.nth 1 rfl
  have y3 := h4.cell 3 (v := .map (some lb)) rfl
  have y4 := h4.cell 4 (v := .slice A r.pend.length cc) rfl
  have f3 := h4.free 3
  have f4 := h4.free 4
  have HB := Aside0.mk hb
  have H5 := Aside0.mk ((h4.setBlk 4 (.slice none 0 0)).setBlk 3 (.map (some w2.heap.size)))
  clear h2 h3 h4 hb
  go_wp2_with (first | (go_at_call 40; go_loud ((with_reducible refine (Clone_calls _ fb es clock HB.out).mono ?_); rintro e w3 ⟨rfl, hw3⟩; rw [hw3]; clear hw3 w3)))
  go_ret
  rw [HR.out]
  refine ⟨rfl, ?_⟩
  have a1 := H5.out.nth 1 rfl
  have hnd := Store.nodup a1
  have hne : w2.heap.size ≠ fb := by
    simp only [List.map_cons, List.nodup_cons, List.mem_cons, not_or] at hnd
    exact hnd.1.1
  have a2 := Store.sub (ms' := [(fb, r.files), (w2.heap.size, r.files)]) (hs' := []) a1 (by simp [Ne.symm hne]) (fun m hm => by
    simp only [List.mem_cons, List.not_mem_nil, or_false] at hm ⊢
    rcases hm with rfl | rfl <;> simp) (fun _ h => h)
  have a3 := ((a2.nth 2 rfl).tail.nth 2 rfl).tail
  have a4 := ((Sat.nilRow kFC 63 (Caps.start a3)).nth 2 rfl).nth 3 rfl
  exact Dk.mk (fb := fb) (lb := w2.heap.size) (pv := .slice none 0 0) (ps := []) a4
theorem Read_calls (w0 w : World) (L : List Asn) (g : Nat) (d : DS) (a : ByteArray) (ha : a.size ≤ maxLen) (h : Sat w0 w (Dk g d :: L)) :
    Calls Try.prog 25 #[.pointer (some ⟨g, 0, none⟩), .string a] w fun e w' => e = .returned (.tuple #[.string ⟨((get (nm a) d.files).getD []).toArray⟩, .bool (get (nm a) d.files).isSome]) ∧ w' = w := by
  obtain ⟨fb, lb, A, c, ps, _, _, h2⟩ := Dk.open h
  have x2 := h2.cell 2 (v := .map (some fb)) rfl
  obtain ⟨v, _, hlk, h3⟩ := Store.look (h2.nth 1 rfl) (b := fb) (f := d.files) (by simp) (a := a) ha
  obtain ⟨F, hcv⟩ := Store.cont h3 (List.mem_cons_self ..)
  have hst := hcv.string
  generalize (get (nm a) d.files).isSome = bb at hlk ⊢
  generalize (get (nm a) d.files).getD [] = cs at hst ⊢
  clear h h2 h3 hcv
  go_enter Try.func25, Try.ntmps25
  go_wp2
  go_ret2
  exact ⟨rfl, rfl⟩
attribute [local go_sem] max2_int max_two in
theorem New_calls (w0 w : World) (L : List Asn) (room : Int) (h : Sat w0 w L) :
    Calls Try.prog 8 #[.int .i64 room] w fun e w' => ∃ g, e = .returned (.pointer (some ⟨g, 0, none⟩)) ∧ Sat w0 w' (Dk g (DS.new room) :: L) := by
  have key : ∀ z, z = max room 0 → Sat w0 (((w.alloc (.map #[] 0)).alloc (.map #[] 0)).alloc (.cells #[.int .i64 z, .int .i64 0, .map (some w.heap.size), .map (some (w.heap.size + 1)), .slice none 0 0, .int .i64 0, .int .i64 (-1), .int .i64 0, .int .i64 0, .bool false] 56)) (Dk (w.heap.size + 2) (DS.new room) :: L) := by
    rintro z rfl
    have h1 := Store.make (Store.make (Store.start h))
    have e1 : (w.alloc (.map #[] 0)).heap.size = w.heap.size + 1 := alloc_size _ _
    have e2 : ((w.alloc (.map #[] 0)).alloc (.map #[] 0)).heap.size = w.heap.size + 2 := by rw [alloc_size, e1]
    rw [e1] at h1
    have h2 := Store.sub (ms' := [(w.heap.size, []), (w.heap.size + 1, [])]) (hs' := []) h1 (by simp) (fun m hm => by
      simp only [List.mem_cons, List.not_mem_nil, or_false] at hm ⊢
      rcases hm with rfl | rfl <;> simp) (fun _ h => h)
    have h3 := (Sat.nilRow kFC 63 (Caps.start h2)).newBlk #[.int .i64 (max room 0), .int .i64 0, .map (some w.heap.size), .map (some (w.heap.size + 1)), .slice none 0 0, .int .i64 0, .int .i64 (-1), .int .i64 0, .int .i64 0, .bool false] 56
    rw [e2] at h3
    exact Dk.mk (fb := w.heap.size) (lb := w.heap.size + 1) (pv := .slice none 0 0) (ps := []) ((h3.nth 3 rfl).nth 1 rfl)
  have HK := Aside0.mk key
  have hmm := @run_makeMap Try.prog
  clear h key
  go_enter Try.func8, Try.ntmps8
  go_wp2
  all_goals go_ret
  all_goals exact ⟨w.heap.size + 2, rfl, HK.out _ (by omega)⟩
end Go.Proofs.Ytlngljhinboglaa.DkO
namespace Go.Proofs.Ytlngljhinboglaa.DkL
open Go.RowKit Go.WideMaps Go.ChangeMaps Go.MapKept Go.Maps Go.Lib Go.Proofs.YtlngljhinboglaaW.PrintWords Go.Proofs.YtlngljhinboglaaW.PrintLast Go.Proofs.YtlngljhinboglaaW.PrintMore Go.Proofs.Ytlngljhinboglaa.Sl Go.Proofs.Ytlngljhinboglaa.DkP Go.Proofs.Ytlngljhinboglaa.DkS Go.Proofs.Ytlngljhinboglaa.DkW Go.Proofs.Ytlngljhinboglaa.DkT Go.Proofs.Ytlngljhinboglaa.DkV Go.Proofs.Ytlngljhinboglaa.DkC Go.Proofs.Ytlngljhinboglaa.DkM Go.Proofs.Ytlngljhinboglaa.DkN Go.Proofs.Ytlngljhinboglaa.DkO
set_option linter.unusedVariables false
set_option linter.unusedSimpArgs false
/-- A disk whose power nobody cuts. -/
structure Live (r : Int) (d : DS) (N S : Nat) : Prop where
  ok : Ok d N S
  rm : d.room = r
  de : d.dead = false
  lf : d.left = -1
  rt : (tot d.files : Int) ≤ r
theorem Live.mono {r : Int} {d : DS} {N S N' S' : Nat} (h : Live r d N S) (hN : N ≤ N') (hS : S ≤ S') : Live r d N' S' := ⟨h.ok.mono hN hS, h.rm, h.de, h.lf, h.rt⟩
theorem Live.change {r : Int} {d : DS} {N S : Nat} (h : Live r d N S) (c : Ch) : d.change c = ({ d with ops := d.ops + 1, pend := d.pend ++ [c], files := c.go c.size d.files }, 0) := by
  have hrd : d.rawD = d := by unfold DS.rawD; rw [if_neg (by rw [h.lf]; omega)]
  have hr : d.raw = ({ d with ops := d.ops + 1 }, 0) := by
    unfold DS.raw
    rw [hrd]
    simp only
    rw [if_neg (by rw [h.de]; simp), if_neg (by rw [h.lf]; omega)]
  unfold DS.change
  rw [hr]
  rfl
theorem app_tot {l : FS Cnt} (h : Rising l) (a s : ByteArray) : tot ((Ch.app a s).go s.size l) = tot l + s.size := by
  have h2 : (s.data.toList).length = s.size := by rw [Array.length_toList]; rfl
  have h1 := tot_put (k := nm a) (v := (get (nm a) l).getD [] ++ s.data.toList.take s.size) h
  rw [List.length_append, List.length_take, h2, Nat.min_self] at h1
  simp only [Ch.go]
  omega
theorem app_has (l : FS Cnt) (a s : ByteArray) (n : Nat) : get (nm a) ((Ch.app a s).go n l) ≠ none := by
  simp only [Ch.go]
  rw [get_put_same]
  simp
/-- An append that may be. -/
theorem Live.yes {r : Int} {d : DS} {N S : Nat} (h : Live r d N S) {a s : ByteArray} (hf : fits a = true) (hs : s.size ≤ 65536) (ht : (tot d.files : Int) + s.size ≤ r) : (d.append a s).2 = 0 ∧ Live r (d.append a s).1 (N + 1) (S + s.size) ∧ tot (d.append a s).1.files = tot d.files + s.size ∧ get (nm a) (d.append a s).1.files ≠ none := by
  have e : d.append a s = d.change (.app a s) := by
    unfold DS.append
    rw [if_neg (by rw [hf]; simp), if_neg (by rw [h.rm]; omega)]
  have hk := ok_change h.ok (c := .app a s) ⟨fits_le hf, by omega⟩
  have hc := h.change (.app a s)
  rw [e]
  rw [hc] at hk ⊢
  have h3 := app_tot h.ok.rf a s
  refine ⟨rfl, ⟨hk, h.rm, h.de, h.lf, ?_⟩, h3, app_has _ _ _ _⟩
  show ((tot ((Ch.app a s).go s.size d.files) : Nat) : Int) ≤ r
  rw [h3]
  omega
theorem Live.no {r : Int} {d : DS} {N S : Nat} (h : Live r d N S) {a s : ByteArray} (hf : fits a = false) : d.append a s = (d, 10) := by unfold DS.append; rw [if_pos hf]
theorem Live.full {r : Int} {d : DS} {N S : Nat} (h : Live r d N S) {a s : ByteArray} (hf : fits a = true) (ht : ¬ (tot d.files : Int) + s.size ≤ r) : d.append a s = (d, 12) := by
  unfold DS.append
  rw [if_neg (by rw [hf]; simp), if_pos (by rw [h.rm]; omega)]
theorem Live.remove {r : Int} {d : DS} {N S : Nat} (h : Live r d N S) (a : ByteArray) : Live r (d.remove a).1 (N + 1) S ∧ (fits a = true → get (nm a) d.files ≠ none → (d.remove a).2 = 0) := by
  unfold DS.remove
  by_cases hf : fits a = false
  · rw [if_pos hf]
    exact ⟨h.mono (Nat.le_succ _) (Nat.le_refl _), fun e => by rw [hf] at e; cases e⟩
  · rw [if_neg hf]
    have hf2 : fits a = true := by simpa using hf
    by_cases hg : get (nm a) d.files = none
    · rw [if_pos hg]
      exact ⟨h.mono (Nat.le_succ _) (Nat.le_refl _), fun _ e => absurd hg e⟩
    · rw [if_neg hg]
      have hk := ok_change h.ok (c := .rem a) (fits_le hf2)
      rw [h.change] at hk ⊢
      refine ⟨⟨hk, h.rm, h.de, h.lf, ?_⟩, fun _ _ => rfl⟩
      have := tot_del (k := nm a) h.ok.rf
      have := h.rt
      simp only [Ch.go]
      omega
theorem Live.start {r : Int} (h0 : 0 ≤ r) (h : (DS.new r).room = r) : Live r (DS.new r) 0 0 := ⟨⟨List.Pairwise.nil, List.Pairwise.nil, Nat.le_refl _, Nat.le_refl _, Nat.le_refl _, Nat.le_refl _, Int.le_refl _, Int.le_refl _, by simp [DS.new], by simp [DS.new], fun c hc => by cases hc⟩, h, rfl, rfl, h0⟩
theorem Live.sync {r : Int} {d : DS} {N S : Nat} (h : Live r d N S) : d.sync = ({ d with ops := d.ops + 1, pend := [], lasting := d.files }, 0) := by
  have hrd : d.rawD = d := by unfold DS.rawD; rw [if_neg (by rw [h.lf]; omega)]
  have hr : d.raw = ({ d with ops := d.ops + 1 }, 0) := by
    unfold DS.raw
    rw [hrd]
    simp only
    rw [if_neg (by rw [h.de]; simp), if_neg (by rw [h.lf]; omega)]
  unfold DS.sync
  rw [hr]
  rfl
theorem Live.sync_live {r : Int} {d : DS} {N S : Nat} (h : Live r d N S) : Live r d.sync.1 (N + 1) S := by
  rw [h.sync]
  exact ⟨⟨h.ok.rf, h.ok.rf, Nat.le_trans h.ok.nf (Nat.le_succ _), by simp only [List.length_nil]; have := h.ok.nf; omega, h.ok.tf, by simp only [wt]; exact h.ok.tf, by have := h.ok.op0; simp only; omega, by have := h.ok.op1; simp only; omega, h.ok.l0, h.ok.l1, fun c hc => by cases hc⟩, h.rm, h.de, h.lf, h.rt⟩
theorem Live.app {r : Int} {d : DS} {N S : Nat} (h : Live r d N S) {a s : ByteArray} (hf : fits a = true) (ht : (tot d.files : Int) + s.size ≤ r) : d.append a s = d.change (.app a s) := by
  unfold DS.append
  rw [if_neg (by rw [hf]; simp), if_neg (by rw [h.rm]; omega)]
end Go.Proofs.Ytlngljhinboglaa.DkL
