/- What the calls of wire.writer's name and many come to.
   What the calls of wire's fields come to, by a writer. -/
import Derived.Test.YtpjljhiohimgcaaZWireFields6
namespace Go.Proofs.Ytpjljhiohimgcaa.WwW
open Go.RowKit Go.Proofs.YtpjljhiohimgcaaW.PrintWords Go.Proofs.YtpjljhiohimgcaaW.PrintLast Go.Proofs.YtpjljhiohimgcaaW.PrintMore Go.Proofs.Ytpjljhiohimgcaa.QB Go.Proofs.Ytpjljhiohimgcaa.Sl Go.Proofs.Ytpjljhiohimgcaa.Uv Go.Proofs.Ytpjljhiohimgcaa.UvP Go.Proofs.Ytpjljhiohimgcaa.WpP
set_option linter.unusedVariables false
set_option linter.unusedSimpArgs false
def Wn.T3 : Bool × List (List Nat × List Nat) := (true, [([], []), ([], []), ([1], [1]), ([2], [2]), ([3], [3]), ([], []), ([5], [5]), ([6], [6]), ([4, 7], [4, 7]), ([0, 0, 1, 2, 3, 4, 5, 6, 7, 8], [0]), ([9, 0, 1, 2, 3, 4, 5, 6, 7, 8], [9]), ([10, 8, 8, 0, 1, 2, 3, 4, 5, 6, 7, 8], [8, 10])])
def Wn.B3 : List Nat := [0, 0, 2, 6, 14, 0, 32, 96, 254, 511, 1023, 2047]
theorem Wn.tab3 : rtab .any (opsOf Try.f60 3) = Wn.T3 := by kernel_rfl
theorem Wn.bits3 : waitsOk Wn.T3.2 Wn.B3 = true := by kernel_rfl
set_option maxHeartbeats 2000000 in
set_option maxRecDepth 100000 in
theorem name_calls (w0 w : World) (L : List Asn) (g : Nat) (b : List Int) (p : Addr) (s : ByteArray) (hb : b.length ≤ 900000) (hp : ∀ w1 b1, Sat w0 w1 (Wt g b1 :: L) → w1.cell? p = some (.string s)) (h : Sat w0 w (Wt g b :: L)) :
    Calls Try.prog 60 #[.pointer (some ⟨g, 0, none⟩), .pointer (some p)] w (WOut (nameE s b) w0 L g) := by
  have x0 := hp _ _ h
  have HS := Aside0.mk h
  have HP := Aside0.mk hp
  clear h hp
  by_cases h1 : s.size ≤ 16
  · have d2 : decide ((s.size : Int) ≤ 16) = true := decide_eq_true (by omega)
    have d3 : decide (s.size ≤ 16) = true := decide_eq_true h1
    have HE := Aside0.mk (show nameE s b = .ok (b ++ uv s.size ++ bytesOf s) by unfold nameE; rw [if_pos h1])
    have HN := Aside0.mk (show numE (s.size : Int) 16 b = .ok (b ++ uv s.size) by unfold numE; rw [if_pos ⟨by omega, by omega⟩, Int.toNat_natCast])
    have HSZ := Aside0.mk h1
    clear h1
    go_enter Try.func60, Try.ntmps60
    go_upto_region 1 with (first | (go_at_call 63; go_loud ((with_reducible refine (must_ok _ 80).mono ?_); rintro e w2 ⟨rfl, rfl⟩)))
    have H2 : Aside0 (Sat w0 (w2.alloc (.cells #[.int .i64 s.size] 3)) (Wt g b :: Blk w2.heap.size #[.int .i64 s.size] 3 :: L)) := Aside0.mk ((HS.out.newBlk #[.int .i64 s.size] 3).nth 1 rfl)
    go_upto_region 2 with (fail)
    generalize w2.alloc (.cells #[.int .i64 s.size] 3) = w1 at H2 ⊢
    generalize w2.heap.size = gl at H2 ⊢
    go_upto_region 3 with (first | (go_at_call 61; go_loud ((with_reducible refine (number_calls w0 _ _ g b ⟨gl, 0, none⟩ s.size 16 (by omega) (by omega) (fun w1 b1 h1 => (h1.nth 1 rfl).cell 0 rfl) H2.out).mono ?_); intro e w3 ho; obtain ⟨rfl, hs3⟩ := ho.isOk HN.out; have H3a := Aside0.mk hs3; clear hs3 ho)))
    obtain ⟨v3, h3⟩ := Wt.open H3a.out
    obtain ⟨A3, c3, rfl, _, _⟩ := (h3.nth 1 rfl).rowSlice
    obtain ⟨b3, hb3⟩ : ∃ b3, b ++ uv s.size = b3 := ⟨_, rfl⟩
    have hl3 : b3.length + s.size ≤ 140737488355328 := by
      have := HSZ.out
      rw [← hb3, List.length_append, uv_small (by omega)]
      simp only [List.length_singleton]
      omega
    rw [hb3] at h3 HE
    obtain ⟨n3, hn3⟩ : ∃ n3, b3.length = n3 := ⟨_, rfl⟩
    have hl4 : n3 + s.size ≤ 140737488355328 := by omega
    rw [hn3] at h3
    have x3 := h3.drew.cell 0 (v := .slice A3 n3 c3) rfl
    have x4 : w3.drew.cell? p = some (.string s) := HP.out _ _ (Wt.mk (h3.drew.nth 2 rfl).tail)
    have H3 := Aside0.mk (h3.drew.nth 1 rfl)
    clear h3 H3a hb3 hn3
    refine start_ (n := 12) (S := fun w' => w'.cell? ⟨g, 0, none⟩ = some (.slice A3 n3 c3) ∧ w'.cell? p = some (.string s)) (ds := [8, 11]) #[false, false, false, false, false, false, false, false, false, false, false, false] (by kernel_rfl) rfl rfl ⟨x3, x4⟩ (fun hHeld => ?_)
    refine with_tabW Wn.tab3 Wn.bits3 (fun HT_ HW_ => ?_)
    refine pure_ (i := 0) (N := some 17) (v := ?_) (a' := ?_) #[true, false, false, false, false, false, false, false, false, false, false, false] rfl rfl (any_of HT_.out (by kernel_rfl)) (fun _ _ _ h => h) (Or.inl ⟨by rfl, ?_⟩) ?_ ?_
    rotate_left
    · intro w'
      go_simp
      with_reducible rfl
    rotate_left
    · simp only [Act.put, List.setIfInBounds_toArray, List.set_cons_zero, List.set_cons_succ, i64_w, i32_w]
      rfl
    refine pure_ (i := 1) (N := some 18) (v := ?_) (a' := ?_) #[true, true, false, false, false, false, false, false, false, false, false, false] rfl rfl (any_of HT_.out (by kernel_rfl)) (fun _ _ _ h => h) (Or.inl ⟨by rfl, ?_⟩) ?_ ?_
    rotate_left
    · intro w'
      go_simp
      with_reducible rfl
    rotate_left
    · simp only [Act.put, List.setIfInBounds_toArray, List.set_cons_zero, List.set_cons_succ, i64_w, i32_w]
      rfl
    refine pure_ (i := 2) (N := some 19) (v := ?_) (a' := ?_) #[true, true, true, false, false, false, false, false, false, false, false, false] rfl rfl (any_of HT_.out (by kernel_rfl)) (fun _ _ _ h => h) (Or.inl ⟨by rfl, ?_⟩) ?_ ?_
    rotate_left
    · intro w'
      go_simp
      with_reducible rfl
    rotate_left
    · simp only [Act.put, List.setIfInBounds_toArray, List.set_cons_zero, List.set_cons_succ, i64_w, i32_w]
      rfl
    refine pure_ (i := 3) (N := some 20) (v := ?_) (a' := ?_) #[true, true, true, true, false, false, false, false, false, false, false, false] rfl rfl (any_of HT_.out (by kernel_rfl)) (fun _ _ _ h => h) (Or.inl ⟨by rfl, ?_⟩) ?_ ?_
    rotate_left
    · intro w'
      go_simp
      with_reducible rfl
    rotate_left
    · simp only [Act.put, List.setIfInBounds_toArray, List.set_cons_zero, List.set_cons_succ, i64_w, i32_w]
      rfl
    refine pure_ (i := 5) (N := some 22) (v := ?_) (a' := ?_) #[true, true, true, true, false, true, false, false, false, false, false, false] rfl rfl (any_of HT_.out (by kernel_rfl)) (fun _ _ _ h => h) (Or.inl ⟨by rfl, ?_⟩) ?_ ?_
    rotate_left
    · intro w'
      go_simp
      with_reducible rfl
    rotate_left
    · simp only [Act.put, List.setIfInBounds_toArray, List.set_cons_zero, List.set_cons_succ, i64_w, i32_w]
      rfl
    refine pure_ (i := 6) (N := some 23) (v := ?_) (a' := ?_) #[true, true, true, true, false, true, true, false, false, false, false, false] rfl rfl (any_of HT_.out (by kernel_rfl)) (fun _ _ _ h => h) (Or.inl ⟨by rfl, ?_⟩) ?_ ?_
    rotate_left
    · intro w'
      go_simp
      with_reducible rfl
    rotate_left
    · simp only [Act.put, List.setIfInBounds_toArray, List.set_cons_zero, List.set_cons_succ, i64_w, i32_w]
      rfl
    refine take_ (i := 4) (N := some 21) (v := ?_) (a' := ?_) #[true, true, true, true, true, true, true, false, false, false, false, false] rfl rfl (take_ofW HT_.out HW_.out (by kernel_rfl)) (fun _ _ _ h => h) (Or.inl ⟨by rfl, ?_⟩) hHeld ?_ ?_
    rotate_left
    · rintro w' ⟨s0, s1⟩
      go_simp
      with_reducible rfl
    rotate_left
    · simp only [Act.put, List.setIfInBounds_toArray, List.set_cons_zero, List.set_cons_succ, i64_w, i32_w]
      rfl
    refine take_ (i := 7) (N := some 24) (v := ?_) (a' := ?_) #[true, true, true, true, true, true, true, true, false, false, false, false] rfl rfl (take_ofW HT_.out HW_.out (by kernel_rfl)) (fun _ _ _ h => h) (Or.inl ⟨by rfl, ?_⟩) hHeld ?_ ?_
    rotate_left
    · rintro w' ⟨s0, s1⟩
      go_simp
      with_reducible rfl
    rotate_left
    · simp only [Act.put, List.setIfInBounds_toArray, List.set_cons_zero, List.set_cons_succ, i64_w, i32_w]
      rfl
    refine last_ (i := 8) (N := some 25) #[true, true, true, true, true, true, true, true, true, false, false, false] rfl rfl (one_of HT_.out (by kernel_rfl)) (by decide) (fun K hK => ?_)
    refine Sat.appendStrStep (by rfl) (.tmp 21) (.tmp 24) 33 9 5 rfl Try.underlying33 Try.underlying9 infoB (.slice A3 n3 c3) b3 s rfl rfl H3.out hl3 ?_
    intro v5 w5 hs5 _
    obtain ⟨A5, c5, rfl, _, _⟩ := hs5.rowSlice
    obtain ⟨n5, hn5⟩ : ∃ n5, (b3 ++ bytesOf s).length = n5 := ⟨_, rfl⟩
    rw [hn5] at hs5 ⊢
    clear hn5
    have y0 := (hs5.nth 1 rfl).cell 0 (v := .slice A3 n3 c3) rfl
    have y1 := (hs5.nth 1 rfl).free 0
    have H5 := Aside0.mk hs5
    clear hs5
    refine hK.out _ _ ?_
    clear hK K
    refine norm_ (a' := ?_) ?_ ?_
    rotate_left
    · show Act.put _ (some 25) _ = _
      simp only [Act.put, List.setIfInBounds_toArray, List.set_cons_zero, List.set_cons_succ, i64_w, i32_w]
      rfl
    refine pure_ (i := 9) (N := some 26) (v := ?_) (a' := ?_) #[true, true, true, true, true, true, true, true, true, true, false, false] rfl rfl (any_of HT_.out (by kernel_rfl)) (fun _ _ _ h => h) (Or.inl ⟨by rfl, ?_⟩) ?_ ?_
    rotate_left
    · intro w'
      go_simp
      with_reducible rfl
    rotate_left
    · simp only [Act.put, List.setIfInBounds_toArray, List.set_cons_zero, List.set_cons_succ, i64_w, i32_w]
      rfl
    refine pure_ (i := 10) (N := some 27) (v := ?_) (a' := ?_) #[true, true, true, true, true, true, true, true, true, true, true, false] rfl rfl (any_of HT_.out (by kernel_rfl)) (fun _ _ _ h => h) (Or.inl ⟨by rfl, ?_⟩) ?_ ?_
    rotate_left
    · intro w'
      go_simp
      with_reducible rfl
    rotate_left
    · simp only [Act.put, List.setIfInBounds_toArray, List.set_cons_zero, List.set_cons_succ, i64_w, i32_w]
      rfl
    refine last_ (i := 11) (N := none) #[true, true, true, true, true, true, true, true, true, true, true, true] rfl rfl (one_of HT_.out (by kernel_rfl)) (by decide) (fun K hK => ?_)
    refine skip_ (w1 := ?_) (by rfl) rfl ?_ ?_
    rotate_left
    · go_simp
      rfl
    refine hK.out _ _ ?_
    clear hK K
    refine done_ (done_of HT_.out (by kernel_rfl)) ?_
    go_end0
    refine WOut.good HE.out rfl (Wt.mk (v := .slice A5 n5 c5) ?_)
    have hz : Sat w0 w5 (Row (Kd.int .u8) 5 (.slice A5 n5 c5) (b3 ++ bytesOf s) :: Blk g #[.slice A3 n3 c3] 53 :: Blk gl #[.int .i64 s.size] 3 :: L) := H5.out
    have hy := (hz.nth 1 rfl).setBlk 0 (.slice A5 n5 c5)
    exact (hy.nth 2 rfl).tail
  · have d2 : decide ((s.size : Int) ≤ 16) = false := decide_eq_false (by omega)
    have d3 : decide (s.size ≤ 16) = false := decide_eq_false h1
    have HE := Aside0.mk (show nameE s b = .error 80 by unfold nameE; rw [if_neg h1])
    clear h1
    go_enter Try.func60, Try.ntmps60
    go_wp2_with (first | (go_at_call 63; go_loud ((with_reducible refine (must_bad _ 80).mono ?_); rintro e w2 ⟨rfl, rfl⟩)))
    exact ⟨rfl, WOut.bad HE.out rfl HS.out.tail⟩
/-- What a call that tells a number, too, leaves. -/
def MOut (n : Int) (r : R) (w0 : World) (L : List Asn) (g : Nat) (e : Ending) (w' : World) : Prop :=
  match r with
  | .ok b => e = .returned (.int .i64 n) ∧ Sat w0 w' (Wt g b :: L)
  | .error x => e = .panicked [wrongP x] ∧ Sat w0 w' L
theorem MOut.isOk {n : Int} {r : R} {w0 w' : World} {L : List Asn} {g : Nat} {e : Ending} {b : List Int} (h : MOut n r w0 L g e w') (hr : r = .ok b) : e = .returned (.int .i64 n) ∧ Sat w0 w' (Wt g b :: L) := by
  subst hr
  exact h
theorem MOut.isBad {n : Int} {r : R} {w0 w' : World} {L : List Asn} {g : Nat} {e : Ending} {x : Int} (h : MOut n r w0 L g e w') (hr : r = .error x) : e = .panicked [wrongP x] ∧ Sat w0 w' L := by
  subst hr
  exact h
theorem MOut.calls {f : FuncId} {args : Array Value} {n : Int} {r : R} {w0 w : World} {L : List Asn} {g : Nat} {Q : Ending → World → Prop} (h : Calls Try.prog f args w (MOut n r w0 L g)) (hb : ∀ x w', r = .error x → Sat w0 w' L → Q (.panicked [wrongP x]) w') (hg : ∀ b w', r = .ok b → Sat w0 w' (Wt g b :: L) → Q (.returned (.int .i64 n)) w') : Calls Try.prog f args w Q := by
  refine h.mono ?_
  intro e w' h
  cases r with
  | error x =>
    obtain ⟨rfl, hs⟩ := h
    exact hb x w' rfl hs
  | ok b =>
    obtain ⟨rfl, hs⟩ := h
    exact hg b w' rfl hs
theorem MOut.good {n : Int} {r : R} {w0 w' : World} {L : List Asn} {g : Nat} {e : Ending} {b : List Int} (hr : r = .ok b) (he : e = .returned (.int .i64 n)) (hs : Sat w0 w' (Wt g b :: L)) : MOut n r w0 L g e w' := by
  subst hr
  exact ⟨he, hs⟩
theorem MOut.bad {n : Int} {r : R} {w0 w' : World} {L : List Asn} {g : Nat} {e : Ending} {x : Int} (hr : r = .error x) (he : e = .panicked [wrongP x]) (hs : Sat w0 w' L) : MOut n r w0 L g e w' := by
  subst hr
  exact ⟨he, hs⟩
set_option maxHeartbeats 2000000 in
set_option maxRecDepth 100000 in
theorem many_calls (w0 w : World) (L : List Asn) (g : Nat) (b : List Int) (n : Nat) (most : Int) (hb : b.length ≤ 1000000) (hm : most < 4611686018427387904) (h : Sat w0 w (Wt g b :: L)) :
    Calls Try.prog 59 #[.pointer (some ⟨g, 0, none⟩), .int .i64 n, .int .i64 most] w (MOut n (manyE n most b) w0 L g) := by
  have h2 := (h.newBlk #[.int .i64 n] 3)
  have x0 := h2.cell 0 (v := .int .i64 n) rfl
  have H2 : Aside0 (Sat w0 (w.alloc (.cells #[.int .i64 n] 3)) (Wt g b :: Blk w.heap.size #[.int .i64 n] 3 :: L)) := Aside0.mk (h2.nth 1 rfl)
  clear h h2
  by_cases h1 : (n : Int) ≤ most
  · have d2 : decide ((n : Int) ≤ most) = true := decide_eq_true h1
    have HE := Aside0.mk (show manyE n most b = .ok (b ++ uv n) by unfold manyE; rw [if_pos h1])
    have HN := Aside0.mk (show numE (n : Int) most b = .ok (b ++ uv n) by unfold numE; rw [if_pos ⟨by omega, h1⟩, Int.toNat_natCast])
    clear h1
    go_enter Try.func59, Try.ntmps59
    go_upto_region 1 with fail
    generalize w.alloc (.cells #[.int .i64 n] 3) = w1 at x0 H2 ⊢
    generalize w.heap.size = gl at x0 H2 ⊢
    go_wp2_with (first | (go_at_call 63; go_loud ((with_reducible refine (must_ok _ 52).mono ?_); rintro e w2 ⟨rfl, rfl⟩)) | (go_at_call 61; go_loud ((with_reducible refine (number_calls w0 _ _ g b ⟨gl, 0, none⟩ n most hb hm (fun w1 b1 h1 => (h1.nth 1 rfl).cell 0 rfl) H2.out).mono ?_); intro e w3 ho; obtain ⟨rfl, hs3⟩ := ho.isOk HN.out; have y0 := (hs3.nth 1 rfl).cell 0 (v := .int .i64 n) rfl; have H3 := Aside0.mk hs3; clear hs3 ho)))
    go_ret
    exact MOut.good HE.out rfl (H3.out.nth 1 rfl).tail
  · have d2 : decide ((n : Int) ≤ most) = false := decide_eq_false h1
    have HE := Aside0.mk (show manyE n most b = .error 52 by unfold manyE; rw [if_neg h1])
    clear h1
    go_enter Try.func59, Try.ntmps59
    go_upto_region 1 with fail
    generalize w.alloc (.cells #[.int .i64 n] 3) = w1 at x0 H2 ⊢
    generalize w.heap.size = gl at x0 H2 ⊢
    go_wp2_with (first | (go_at_call 63; go_loud ((with_reducible refine (must_bad _ 52).mono ?_); rintro e w2 ⟨rfl, rfl⟩)))
    exact ⟨rfl, MOut.bad HE.out rfl H2.out.tail.tail⟩
end Go.Proofs.Ytpjljhiohimgcaa.WwW
namespace Go.Proofs.Ytpjljhiohimgcaa.WwW
open Go.RowKit Go.Proofs.YtpjljhiohimgcaaW.PrintWords Go.Proofs.YtpjljhiohimgcaaW.PrintLast Go.Proofs.YtpjljhiohimgcaaW.PrintMore Go.Proofs.Ytpjljhiohimgcaa.QB Go.Proofs.Ytpjljhiohimgcaa.Sl Go.Proofs.Ytpjljhiohimgcaa.Uv Go.Proofs.Ytpjljhiohimgcaa.UvP Go.Proofs.Ytpjljhiohimgcaa.WpP
set_option linter.unusedVariables false
set_option linter.unusedSimpArgs false
/-! The interface's methods, at a writer and at a reader. -/
theorem nil_w_number (a : Addr) (w : World) : (nilAhead 222 51 (.pointer (some a)) "thermograph/wire.number").run Try.prog w = .ok (some false) w := by kernel_rfl
theorem met_w_number (a : Addr) (w : World) : (method 222 51 (.pointer (some a)) "thermograph/wire.number").run Try.prog w = .ok (61, .pointer (some a)) w := by kernel_rfl
theorem nil_w_name (a : Addr) (w : World) : (nilAhead 222 51 (.pointer (some a)) "thermograph/wire.name").run Try.prog w = .ok (some false) w := by kernel_rfl
theorem met_w_name (a : Addr) (w : World) : (method 222 51 (.pointer (some a)) "thermograph/wire.name").run Try.prog w = .ok (60, .pointer (some a)) w := by kernel_rfl
theorem nil_w_wide (a : Addr) (w : World) : (nilAhead 222 51 (.pointer (some a)) "thermograph/wire.wide").run Try.prog w = .ok (some false) w := by kernel_rfl
theorem met_w_wide (a : Addr) (w : World) : (method 222 51 (.pointer (some a)) "thermograph/wire.wide").run Try.prog w = .ok (62, .pointer (some a)) w := by kernel_rfl
theorem nil_w_many (a : Addr) (w : World) : (nilAhead 222 51 (.pointer (some a)) "thermograph/wire.many").run Try.prog w = .ok (some false) w := by kernel_rfl
theorem met_w_many (a : Addr) (w : World) : (method 222 51 (.pointer (some a)) "thermograph/wire.many").run Try.prog w = .ok (59, .pointer (some a)) w := by kernel_rfl
theorem nil_r_number (a : Addr) (w : World) : (nilAhead 222 61 (.pointer (some a)) "thermograph/wire.number").run Try.prog w = .ok (some false) w := by kernel_rfl
theorem met_r_number (a : Addr) (w : World) : (method 222 61 (.pointer (some a)) "thermograph/wire.number").run Try.prog w = .ok (68, .pointer (some a)) w := by kernel_rfl
theorem nil_r_name (a : Addr) (w : World) : (nilAhead 222 61 (.pointer (some a)) "thermograph/wire.name").run Try.prog w = .ok (some false) w := by kernel_rfl
theorem met_r_name (a : Addr) (w : World) : (method 222 61 (.pointer (some a)) "thermograph/wire.name").run Try.prog w = .ok (67, .pointer (some a)) w := by kernel_rfl
theorem nil_r_wide (a : Addr) (w : World) : (nilAhead 222 61 (.pointer (some a)) "thermograph/wire.wide").run Try.prog w = .ok (some false) w := by kernel_rfl
theorem met_r_wide (a : Addr) (w : World) : (method 222 61 (.pointer (some a)) "thermograph/wire.wide").run Try.prog w = .ok (69, .pointer (some a)) w := by kernel_rfl
theorem nil_r_many (a : Addr) (w : World) : (nilAhead 222 61 (.pointer (some a)) "thermograph/wire.many").run Try.prog w = .ok (some false) w := by kernel_rfl
theorem met_r_many (a : Addr) (w : World) : (method 222 61 (.pointer (some a)) "thermograph/wire.many").run Try.prog w = .ok (66, .pointer (some a)) w := by kernel_rfl
set_option maxHeartbeats 2000000 in
set_option maxRecDepth 100000 in
theorem span_calls (w0 w : World) (L : List Asn) (g : Nat) (b0 : List Int) (p : Addr) (lo hi : Int) (hb : b0.length ≤ 900000) (hp0 : ∀ w1 b1, Sat w0 w1 (Wt g b1 :: L) → w1.cell? p = some (.int .i64 lo)) (hp1 : ∀ w1 b1, Sat w0 w1 (Wt g b1 :: L) → w1.cell? ⟨p.block, p.off + 1, none⟩ = some (.int .i64 hi)) (h : Sat w0 w (Wt g b0 :: L)) :
    Calls Try.prog 25 #[.iface 51 (.pointer (some ⟨g, 0, none⟩)), .pointer (some p)] w (WOut (spanE lo hi b0) w0 L g) := by
  have H0 := Aside0.mk h
  have HP0 := Aside0.mk hp0
  have HP1 := Aside0.mk hp1
  have hn := nil_w_number ⟨g, 0, none⟩
  have hm := met_w_number ⟨g, 0, none⟩
  clear h hp0 hp1
  go_enter Try.func25, Try.ntmps25
  go_upto_region 0 with fail
  go_region_with (first | (go_at_call 61; go_loud ((with_reducible refine WOut.calls (number_calls w0 _ _ g b0 p lo 1099511627777 (by omega) (by omega) HP0.out H0.out.drew) ?_ ?_); exact fun x w3 hr hs => ⟨rfl, WOut.bad (by simp only [spanE, hr, Except.bind]) rfl hs⟩; intro b1 w1 hr1 hs; have hl1 := numE_len hr1 (by decide); have HR1 := Aside0.mk hr1; have H1 := Aside0.mk hs; clear hs hr1)))
  go_upto_region 1 with fail
  go_region_with (first | (go_at_call 61; go_loud ((with_reducible refine WOut.calls (number_calls w0 _ _ g b1 _ hi 1099511627777 (by omega) (by omega) HP1.out H1.out.drew) ?_ ?_); exact fun x w3 hr hs => ⟨rfl, WOut.bad (by simp only [spanE, HR1.out, hr, Except.bind]) rfl hs⟩; intro b2 w2 hr2 hs; have hl2 := numE_len hr2 (by decide); have HR2 := Aside0.mk hr2; have H2 := Aside0.mk hs; clear hs hr2)))
  go_end0
  exact WOut.good (by simp only [spanE, HR1.out, HR2.out, Except.bind]) rfl H2.out
set_option maxHeartbeats 2000000 in
set_option maxRecDepth 100000 in
theorem point_calls (w0 w : World) (L : List Asn) (g : Nat) (b0 : List Int) (p : Addr) (x : Pt) (hx : OkPt x) (hb : b0.length ≤ 900000) (hp0 : ∀ w1 b1, Sat w0 w1 (Wt g b1 :: L) → w1.cell? p = some (.int .i64 x.f0)) (hp1 : ∀ w1 b1, Sat w0 w1 (Wt g b1 :: L) → w1.cell? ⟨p.block, p.off + 1, none⟩ = some (.int .u64 x.f1)) (hp2 : ∀ w1 b1, Sat w0 w1 (Wt g b1 :: L) → w1.cell? ⟨p.block, p.off + 2, none⟩ = some (.int .u64 x.f2)) (h : Sat w0 w (Wt g b0 :: L)) :
    Calls Try.prog 24 #[.iface 51 (.pointer (some ⟨g, 0, none⟩)), .pointer (some p)] w (WOut (pointE x b0) w0 L g) := by
  have H0 := Aside0.mk h
  have HX1 : Aside0 (0 ≤ x.f1 ∧ x.f1 < 18446744073709551616) := ⟨hx.1⟩
  have HX2 : Aside0 (0 ≤ x.f2 ∧ x.f2 < 18446744073709551616) := ⟨hx.2⟩
  have HP0 := Aside0.mk hp0
  have HP1 := Aside0.mk hp1
  have HP2 := Aside0.mk hp2
  have hn := nil_w_number ⟨g, 0, none⟩
  have hm := met_w_number ⟨g, 0, none⟩
  have hn2 := nil_w_wide ⟨g, 0, none⟩
  have hm2 := met_w_wide ⟨g, 0, none⟩
  clear h hp0 hp1 hp2 hx
  go_enter Try.func24, Try.ntmps24
  go_upto_region 0 with fail
  go_region_with (first | (go_at_call 61; go_loud ((with_reducible refine WOut.calls (number_calls w0 _ _ g b0 p x.f0 1099511627776 (by omega) (by omega) HP0.out H0.out.drew) ?_ ?_); exact fun x w3 hr hs => ⟨rfl, WOut.bad (by simp only [pointE, hr, Except.bind]) rfl hs⟩; intro b1 w1 hr1 hs; have hl1 := numE_len hr1 (by decide); have HR1 := Aside0.mk hr1; have H1 := Aside0.mk hs; clear hs hr1)))
  go_upto_region 1 with fail
  go_region_with (first | (go_at_call 62; go_loud ((with_reducible refine (wide_calls w0 _ _ g b1 _ x.f1 8 8 rfl (by omega) HX1.out (by omega) HP1.out H1.out.drew).mono ?_); rintro e w2 ⟨rfl, hs⟩; obtain ⟨b2, hb2⟩ : ∃ b2, wideE x.f1 8 b1 = b2 := ⟨_, rfl⟩; rw [hb2] at hs; have hl2 := wideE_len x.f1 8 b1; rw [hb2] at hl2; have HR2 := Aside0.mk hb2; have H2 := Aside0.mk hs; clear hs hb2)))
  go_upto_region 2 with fail
  go_region_with (first | (go_at_call 62; go_loud ((with_reducible refine (wide_calls w0 _ _ g b2 _ x.f2 8 8 rfl (by omega) HX2.out (by omega) HP2.out H2.out.drew).mono ?_); rintro e w3 ⟨rfl, hs⟩; obtain ⟨b3, hb3⟩ : ∃ b3, wideE x.f2 8 b2 = b3 := ⟨_, rfl⟩; rw [hb3] at hs; have hl3 := wideE_len x.f2 8 b2; rw [hb3] at hl3; have HR3 := Aside0.mk hb3; have H3 := Aside0.mk hs; clear hs hb3)))
  go_end0
  exact WOut.good (by simp only [pointE, HR1.out, HR2.out, HR3.out, Except.bind]) rfl H3.out
end Go.Proofs.Ytpjljhiohimgcaa.WwW
