/- What the call of wire.Encode comes to.
   What functions of the translation come to, each as a Lean function, and a proof that the call comes to just that; or a law's row, out of its plain law. Written by mp.py, a program of this session, which runs the printer of the kit with stand-in bodies for some library functions. -/
import Derived.Test.YtpjljhiohimgcaaZWireFields9
import Derived.Test.YtpjljhiohimgcaaZWireFields2
import Derived.Test.YtpjljhiohimgcaaZWireFields3
namespace Go.Proofs.Ytpjljhiohimgcaa.WwW
open Go.RowKit Go.Proofs.YtpjljhiohimgcaaW.PrintWords Go.Proofs.YtpjljhiohimgcaaW.PrintLast Go.Proofs.YtpjljhiohimgcaaW.PrintMore Go.Proofs.Ytpjljhiohimgcaa.QB Go.Proofs.Ytpjljhiohimgcaa.Sl Go.Proofs.Ytpjljhiohimgcaa.Uv Go.Proofs.Ytpjljhiohimgcaa.UvP Go.Proofs.Ytpjljhiohimgcaa.WpP
set_option linter.unusedVariables false
set_option linter.unusedSimpArgs false
theorem infoM : (Try.prog.info? 49).map (fun i => (i.zero, i.size, i.bytes)) = some (some (.agg #[.string ⟨#[]⟩, .int .i64 0, .int .i64 0, .int .u32 0]), 4, 40) := by kernel_rfl
theorem infoPt : (Try.prog.info? 26).map (fun i => (i.zero, i.size, i.bytes)) = some (some (.agg #[.int .i64 0, .int .u64 0, .int .u64 0]), 3, 24) := by kernel_rfl
set_option maxHeartbeats 8000000 in
set_option maxRecDepth 100000 in
theorem Encode_calls (w : World) (m : Msg) (Ap : Option Addr) (cp : Nat) (Am : Option Addr) (cm : Nat) (hI : MIn w m Ap cp Am cm) :
    Calls Try.prog 9 #[.agg (m.cs (.slice Ap m.ps.length cp) (.slice Am m.ms.length cm))] w (EncOut m w) := by
  have hmf : ∀ (fn : Fn) (first cap : Array Value) (w : World), (Instr.makeFunc fn first cap).run Try.prog w = .ok (.func fn first cap) w := fun _ _ _ _ => rfl
  have HI := Aside0.mk hI
  have H1 : Aside0 (Sat w (((w.alloc (.cells (m.cs (.slice Ap m.ps.length cp) (.slice Am m.ms.length cm)) 31)).alloc (.cells #[.slice none 0 0] 33)).alloc (.cells #[.int .i64 0] 27)) (Blk w.heap.size (m.cs (.slice Ap m.ps.length cp) (.slice Am m.ms.length cm)) 31 :: Blk (w.heap.size + 1) #[.slice none 0 0] 33 :: Blk (w.heap.size + 1 + 1) #[.int .i64 0] 27 :: [])) := ⟨by
    have h := (((Sat.start w).newBlk (m.cs (.slice Ap m.ps.length cp) (.slice Am m.ms.length cm)) 31).newBlk #[.slice none 0 0] 33).newBlk #[.int .i64 0] 27
    rw [alloc_size, alloc_size] at h
    exact ((h.nth 1 rfl).nth 2 rfl)⟩
  clear hI
  go_enter_defers Try.func9, Try.ntmps9
  go_upto_region 1 with (fail)
  generalize ((w.alloc (.cells (m.cs (.slice Ap m.ps.length cp) (.slice Am m.ms.length cm)) 31)).alloc (.cells #[.slice none 0 0] 33)).alloc (.cells #[.int .i64 0] 27) = w1 at H1 ⊢
  generalize w.heap.size + 1 + 1 = g2 at H1 ⊢
  generalize w.heap.size + 1 = g1 at H1 ⊢
  generalize w.heap.size = gm at H1 ⊢
  have x0 := H1.out.cell 0 (v := .int .i64 m.kind) rfl
  by_cases hbad : m.kind < 1 ∨ 8 < m.kind
  · have HB := Aside0.mk (show encM m = .error 1 by unfold encM; rw [if_pos hbad])
    have z1 := (H1.out.nth 1 rfl).cell 0 (v := .slice none 0 0) rfl
    have z2 := (H1.out.nth 1 rfl).free 0
    have hq1 := ((H1.out.nth 1 rfl).setBlk 0 (.slice none 0 0)).nth 2 rfl
    have z3 := hq1.cell 0 (v := .int .i64 0) rfl
    have z4 := hq1.free 0
    have HQ : Aside0 (Sat w _ (Blk g1 #[.slice none 0 0] 33 :: Blk g2 #[.int .i64 1] 27 :: _)) := Aside0.mk ((hq1.setBlk 0 (.int .i64 1)).nth 1 rfl)
    clear hq1 HI
    by_cases h1 : m.kind < 1
    · have d1 : decide (m.kind < 1) = true := decide_eq_true h1
      clear h1 hbad
      go_wp2_with fail
      have k1 := HQ.out.cell 0 (v := .slice none 0 0) rfl
      have k2 := (HQ.out.nth 1 rfl).cell 0 (v := .int .i64 1) rfl
      simp [bodyPostD, Leaves, settle, results, Try.results9, go_sem, k1, k2]
      exact EncOut.bad HB.out rfl HQ.out
    · have d1 : decide (m.kind < 1) = false := decide_eq_false h1
      have d2 : decide (8 < m.kind) = true := decide_eq_true (by omega)
      clear h1 hbad
      go_wp2_with fail
      have k1 := HQ.out.cell 0 (v := .slice none 0 0) rfl
      have k2 := (HQ.out.nth 1 rfl).cell 0 (v := .int .i64 1) rfl
      simp [bodyPostD, Leaves, settle, results, Try.results9, go_sem, k1, k2]
      exact EncOut.bad HB.out rfl HQ.out
  · have d1 : decide (m.kind < 1) = false := decide_eq_false (by omega)
    have d2 : decide (8 < m.kind) = false := decide_eq_false (by omega)
    have HE := Aside0.mk (show encM m = fieldsE m [m.kind] by unfold encM; rw [if_neg hbad])
    have e1 : IntKind.u8.wrap m.kind = m.kind := by rw [IntKind.wrap_u8]; omega
    clear hbad
    have hq := H1.out.litInt (k := .u8) (e := 5) m.kind
    have hq2 := hq.newBlk #[.slice (some ⟨w1.heap.size, 0, none⟩) 1 1] 53
    rw [alloc_size] at hq2
    have H4 : Aside0 (Sat w ((w1.alloc (.cells #[.int .u8 m.kind] 5)).alloc (.cells #[.slice (some ⟨w1.heap.size, 0, none⟩) 1 1] 53)) (Wt (w1.heap.size + 1) [m.kind] :: Blk gm (m.cs (.slice Ap m.ps.length cp) (.slice Am m.ms.length cm)) 31 :: Blk g1 #[.slice none 0 0] 33 :: Blk g2 #[.int .i64 0] 27 :: [])) := ⟨Wt.mk hq2⟩
    clear hq hq2
    have hcl := clip_run (P := Try.prog) Try.underlying28 (info_parts infoPt).choose_spec.1 Ap m.ps.length cp HI.out.cp
    go_upto_region 5 with fail
    generalize (w1.alloc (.cells #[.int .u8 m.kind] 5)).alloc (.cells #[.slice (some ⟨w1.heap.size, 0, none⟩) 1 1] 53) = w4 at H4 ⊢
    generalize w1.heap.size + 1 = g at H4 ⊢
    have HCM : Aside0 (Kd.C k49 w4.drew Am m.ms.length m.ms) := ⟨Kd.C_below HI.out.hm H4.out.drew.below⟩
    have HN := Aside0.mk (Sat.nilRow k49 49 H4.out.drew)
    have p0 := (H4.out.drew.nth 1 rfl).cell 14 (v := .slice Ap m.ps.length cp) rfl
    have p1 := (H4.out.drew.nth 1 rfl).cell 15 (v := .slice Am m.ms.length cm) rfl
    have hlm2 : ([] ++ m.ms).length * 40 ≤ 140737488355328 := by have := HI.out.lm; simp only [List.nil_append]; omega
    have hlm3 : (([] : List Mt).length + m.ms.length) * 40 ≤ 140737488355328 := by have := HI.out.lm; simp only [List.length_nil]; omega
    clear x0 H1
    refine start_ (n := 16) (S := fun w' => w'.cell? ⟨gm, 14, none⟩ = some (.slice Ap m.ps.length cp) ∧ w'.cell? ⟨gm, 15, none⟩ = some (.slice Am m.ms.length cm)) (ds := [13, 15]) #[false, false, false, false, false, false, false, false, false, false, false, false, false, false, false, false] (by kernel_rfl) rfl rfl ⟨p0, p1⟩ (fun hHeld => ?_)
    refine with_tabW We.tab5 We.bits5 (fun HT_ HW_ => ?_)
    refine pure_ (i := 0) (N := some 20) (v := ?_) (a' := ?_) #[true, false, false, false, false, false, false, false, false, false, false, false, false, false, false, false] rfl rfl (any_of HT_.out (by kernel_rfl)) (fun _ _ _ h => panicPut (by rfl) h) (Or.inl ⟨by rfl, ?_⟩) ?_ ?_
    rotate_left
    · intro w'
      go_simp
      with_reducible rfl
    rotate_left
    · simp only [Act.put, List.setIfInBounds_toArray, List.set_cons_zero, List.set_cons_succ, i64_w, i32_w]
      rfl
    refine pure_ (i := 2) (N := some 22) (v := ?_) (a' := ?_) #[true, false, true, false, false, false, false, false, false, false, false, false, false, false, false, false] rfl rfl (any_of HT_.out (by kernel_rfl)) (fun _ _ _ h => panicPut (by rfl) h) (Or.inl ⟨by rfl, ?_⟩) ?_ ?_
    rotate_left
    · intro w'
      go_simp
      with_reducible rfl
    rotate_left
    · simp only [Act.put, List.setIfInBounds_toArray, List.set_cons_zero, List.set_cons_succ, i64_w, i32_w]
      rfl
    refine pure_ (i := 5) (N := some 25) (v := ?_) (a' := ?_) #[true, false, true, false, false, true, false, false, false, false, false, false, false, false, false, false] rfl rfl (any_of HT_.out (by kernel_rfl)) (fun _ _ _ h => panicPut (by rfl) h) (Or.inl ⟨by rfl, ?_⟩) ?_ ?_
    rotate_left
    · intro w'
      go_simp
      with_reducible rfl
    rotate_left
    · simp only [Act.put, List.setIfInBounds_toArray, List.set_cons_zero, List.set_cons_succ, i64_w, i32_w]
      rfl
    refine pure_ (i := 9) (N := some 29) (v := ?_) (a' := ?_) #[true, false, true, false, false, true, false, false, false, true, false, false, false, false, false, false] rfl rfl (any_of HT_.out (by kernel_rfl)) (fun _ _ _ h => panicPut (by rfl) h) (Or.inl ⟨by rfl, ?_⟩) ?_ ?_
    rotate_left
    · intro w'
      go_simp
      with_reducible rfl
    rotate_left
    · simp only [Act.put, List.setIfInBounds_toArray, List.set_cons_zero, List.set_cons_succ, i64_w, i32_w]
      rfl
    refine take_ (i := 1) (N := some 21) (v := ?_) (a' := ?_) #[true, true, true, false, false, true, false, false, false, true, false, false, false, false, false, false] rfl rfl (take_ofW HT_.out HW_.out (by kernel_rfl)) (fun _ _ _ h => panicPut (by rfl) h) (Or.inl ⟨by rfl, ?_⟩) hHeld ?_ ?_
    rotate_left
    · rintro w' ⟨s0, s1⟩
      go_simp
      with_reducible rfl
    rotate_left
    · simp only [Act.put, List.setIfInBounds_toArray, List.set_cons_zero, List.set_cons_succ, i64_w, i32_w]
      rfl
    refine take_ (i := 3) (N := some 23) (v := ?_) (a' := ?_) #[true, true, true, true, false, true, false, false, false, true, false, false, false, false, false, false] rfl rfl (take_ofW HT_.out HW_.out (by kernel_rfl)) (fun _ _ _ h => panicPut (by rfl) h) (Or.inl ⟨by rfl, ?_⟩) hHeld ?_ ?_
    rotate_left
    · rintro w' ⟨s0, s1⟩
      go_simp
      with_reducible rfl
    rotate_left
    · simp only [Act.put, List.setIfInBounds_toArray, List.set_cons_zero, List.set_cons_succ, i64_w, i32_w]
      rfl
    refine pure_ (i := 4) (N := some 24) (v := ?_) (a' := ?_) #[true, true, true, true, true, true, false, false, false, true, false, false, false, false, false, false] rfl rfl (any_of HT_.out (by kernel_rfl)) (fun _ _ _ h => panicPut (by rfl) h) (Or.inl ⟨by rfl, ?_⟩) ?_ ?_
    rotate_left
    · intro w'
      go_simp
      with_reducible rfl
    rotate_left
    · simp only [Act.put, List.setIfInBounds_toArray, List.set_cons_zero, List.set_cons_succ, i64_w, i32_w]
      rfl
    refine take_ (i := 6) (N := some 26) (v := ?_) (a' := ?_) #[true, true, true, true, true, true, true, false, false, true, false, false, false, false, false, false] rfl rfl (take_ofW HT_.out HW_.out (by kernel_rfl)) (fun _ _ _ h => panicPut (by rfl) h) (Or.inl ⟨by rfl, ?_⟩) hHeld ?_ ?_
    rotate_left
    · rintro w' ⟨s0, s1⟩
      go_simp
      with_reducible rfl
    rotate_left
    · simp only [Act.put, List.setIfInBounds_toArray, List.set_cons_zero, List.set_cons_succ, i64_w, i32_w]
      rfl
    refine pure_ (i := 7) (N := some 27) (v := ?_) (a' := ?_) #[true, true, true, true, true, true, true, true, false, true, false, false, false, false, false, false] rfl rfl (any_of HT_.out (by kernel_rfl)) (fun _ _ _ h => panicPut (by rfl) h) (Or.inl ⟨by rfl, ?_⟩) ?_ ?_
    rotate_left
    · intro w'
      go_simp
      with_reducible rfl
    rotate_left
    · simp only [Act.put, List.setIfInBounds_toArray, List.set_cons_zero, List.set_cons_succ, i64_w, i32_w]
      rfl
    refine pure_ (i := 8) (N := some 28) (v := ?_) (a' := ?_) #[true, true, true, true, true, true, true, true, true, true, false, false, false, false, false, false] rfl rfl (any_of HT_.out (by kernel_rfl)) (fun _ _ _ h => panicPut (by rfl) h) (Or.inl ⟨by rfl, ?_⟩) ?_ ?_
    rotate_left
    · intro w'
      go_simp
      with_reducible rfl
    rotate_left
    · simp only [Act.put, List.setIfInBounds_toArray, List.set_cons_zero, List.set_cons_succ, i64_w, i32_w]
      rfl
    refine take_ (i := 10) (N := some 30) (v := ?_) (a' := ?_) #[true, true, true, true, true, true, true, true, true, true, true, false, false, false, false, false] rfl rfl (take_ofW HT_.out HW_.out (by kernel_rfl)) (fun _ _ _ h => panicPut (by rfl) h) (Or.inl ⟨by rfl, ?_⟩) hHeld ?_ ?_
    rotate_left
    · rintro w' ⟨s0, s1⟩
      go_simp
      with_reducible rfl
    rotate_left
    · simp only [Act.put, List.setIfInBounds_toArray, List.set_cons_zero, List.set_cons_succ, i64_w, i32_w]
      rfl
    refine one_ (i := 11) (N := some 31) #[true, true, true, true, true, true, true, true, true, true, true, true, false, false, false, false] rfl rfl (one_of HT_.out (by kernel_rfl)) (by decide) (fun K hK => ?_)
    refine Sat.appendRowsStep k49 (by rfl) (.const (.slice none 0 0)) (.tmp 30) 29 49 (.agg #[.string ⟨#[]⟩, .int .i64 0, .int .i64 0, .int .u32 0]) 40 rfl Try.underlying29 infoM rfl (by decide) (by omega) (.slice none 0 0) [] m.ms Am m.ms.length cm rfl rfl HN.out HCM.out (fun x cs h => by rw [k49_open h]; exact k49_mkM _ _ _ x) hlm3 ?_
    intro v6 w9 hs5 hsz5
    obtain ⟨A9, c9, hv6, _, _⟩ := hs5.rowSlice
    subst hv6
    rw [List.nil_append] at hs5 ⊢
    clear hsz5
    have H9 := Aside0.mk hs5
    clear hs5
    refine hK.out _ _ ⟨(show _ from (H9.out.nth 2 rfl).cell 14 rfl), (show _ from (H9.out.nth 2 rfl).cell 15 rfl)⟩ (fun hHeld => ?_)
    clear hK K
    refine norm_ (a' := ?_) ?_ ?_
    rotate_left
    · show Act.put _ (some 31) _ = _
      simp only [Act.put, List.setIfInBounds_toArray, List.set_cons_zero, List.set_cons_succ, i64_w, i32_w]
      rfl
    refine pure_ (i := 12) (N := some 32) (v := ?_) (a' := ?_) #[true, true, true, true, true, true, true, true, true, true, true, true, true, false, false, false] rfl rfl (any_of HT_.out (by kernel_rfl)) (fun _ _ _ h => panicPut (by rfl) h) (Or.inl ⟨by rfl, ?_⟩) ?_ ?_
    rotate_left
    · intro w'
      go_simp
      with_reducible rfl
    rotate_left
    · simp only [Act.put, List.setIfInBounds_toArray, List.set_cons_zero, List.set_cons_succ, i64_w, i32_w]
      rfl
    refine last_ (i := 13) (N := none) #[true, true, true, true, true, true, true, true, true, true, true, true, true, true, false, false] rfl rfl (one_of HT_.out (by kernel_rfl)) (by decide) (fun K hK => ?_)
    have s3 := (H9.out.nth 2 rfl).cell 14 (v := .slice Ap m.ps.length cp) rfl
    have t3 := (H9.out.nth 2 rfl).free 14
    refine skip_ (w1 := ?_) (by rfl) rfl ?_ ?_
    rotate_left
    · go_simp
      rfl
    have H10 := Aside0.mk ((H9.out.nth 2 rfl).setBlk 14 (.slice Ap m.ps.length m.ps.length))
    refine hK.out _ _ ?_
    clear hK K
    refine pure_ (i := 14) (N := some 33) (v := ?_) (a' := ?_) #[true, true, true, true, true, true, true, true, true, true, true, true, true, true, true, false] rfl rfl (any_of HT_.out (by kernel_rfl)) (fun _ _ _ h => panicPut (by rfl) h) (Or.inl ⟨by rfl, ?_⟩) ?_ ?_
    rotate_left
    · intro w'
      go_simp
      with_reducible rfl
    rotate_left
    · simp only [Act.put, List.setIfInBounds_toArray, List.set_cons_zero, List.set_cons_succ, i64_w, i32_w]
      rfl
    refine last_ (i := 15) (N := none) #[true, true, true, true, true, true, true, true, true, true, true, true, true, true, true, true] rfl rfl (one_of HT_.out (by kernel_rfl)) (by decide) (fun K hK => ?_)
    have s4 := H10.out.cell 15 (v := .slice Am m.ms.length cm) rfl
    have t4 := H10.out.free 15
    refine skip_ (w1 := ?_) (by rfl) rfl ?_ ?_
    rotate_left
    · go_simp
      rfl
    have H11 := Aside0.mk (H10.out.setBlk 15 (.slice A9 m.ms.length c9))
    refine hK.out _ _ ?_
    clear hK K
    refine done_ (done_of HT_.out (by kernel_rfl)) ?_
    obtain ⟨w12, hw12⟩ : ∃ W, (w9.setCell ⟨gm, 14, none⟩ (.slice Ap m.ps.length m.ps.length)).setCell ⟨gm, 15, none⟩ (.slice A9 m.ms.length c9) = W := ⟨_, rfl⟩
    rw [hw12] at H11 ⊢
    have H12 : Aside0 (Sat w w12 (Wt g [m.kind] :: Blk gm (m.cs (.slice Ap m.ps.length m.ps.length) (.slice A9 m.ms.length c9)) 31 :: Row k49 49 (.slice A9 m.ms.length c9) m.ms :: Blk g1 #[.slice none 0 0] 33 :: Blk g2 #[.int .i64 0] 27 :: [])) := ⟨H11.out.nth 2 rfl⟩
    have hc9 := (H12.out.nth 2 rfl).rowLen
    have HFI : Aside0 (FIn w (Blk g1 #[.slice none 0 0] 33 :: Blk g2 #[.int .i64 0] 27 :: []) m Ap m.ps.length A9 c9) := ⟨⟨HI.out.okp, HI.out.okm, HI.out.okv, HI.out.lp, HI.out.lm, Nat.le_refl _, hc9.2, HI.out.hp⟩⟩
    clear H11 H10 H9 H4 hw12 s3 t3 s4 t4 p0 p1 hc9 HN HCM hHeld hcl
    rcases hr : fieldsE m [m.kind] with x | b
    · have HX := Aside0.mk hr
      clear hr
      go_wp2_with (first | (go_at_call 17; go_loud ((with_reducible refine (fields_calls w _ _ g gm [m.kind] m Ap m.ps.length A9 c9 HFI.out (by simp) H12.out).mono ?_); intro e w13 ho; obtain ⟨rfl, hs⟩ := ho.isBad HX.out; have H13 := Aside0.mk hs; clear hs ho)))
      show Leaves Try.prog Try.f9 _ _ _ (.panicking [wrongP x]) _
      refine leaves_cons (f := 15) (args := #[.pointer (some ⟨g1, 0, none⟩), .pointer (some ⟨g2, 0, none⟩)]) (by simp) (by simp [go_sem]) ?_
      refine (catch_panicking g1 g2 _ _ _ _ _ H13.out).mono ?_
      rintro e u' w'' ⟨rfl, rfl, hs⟩
      have k1 := hs.cell 0 (v := .slice none 0 0) rfl
      have k2 := (hs.nth 1 rfl).cell 0 (v := .int .i64 x) rfl
      simp [Leaves, settle, results, wrongP, Try.results9, go_sem, k1, k2]
      exact EncOut.bad (HE.out.trans HX.out) rfl hs
    · have HX := Aside0.mk hr
      clear hr
      go_upto_region 7 with (first | (go_at_call 17; go_loud ((with_reducible refine (fields_calls w _ _ g gm [m.kind] m Ap m.ps.length A9 c9 HFI.out (by simp) H12.out).mono ?_); intro e w13 ho; obtain ⟨rfl, hs⟩ := ho.isOk HX.out; have H13 := Aside0.mk hs; clear hs ho)))
      obtain ⟨v1, h1⟩ := Wt.open H13.out
      have y0 := h1.cell 0 (v := v1) rfl
      have z1 := (h1.nth 2 rfl).cell 0 (v := .slice none 0 0) rfl
      have z2 := (h1.nth 2 rfl).free 0
      have hq1 := ((h1.nth 2 rfl).setBlk 0 v1).nth 3 rfl
      have z3 := hq1.cell 0 (v := .int .i64 0) rfl
      have z4 := hq1.free 0
      have HQ : Aside0 (Sat w _ (Blk g2 #[.int .i64 0] 27 :: Blk g1 #[v1] 33 :: Blk g #[v1] 53 :: Row (Kd.int .u8) 5 v1 b :: [])) := Aside0.mk (hq1.setBlk 0 (.int .i64 0))
      obtain ⟨A1, c1, rfl, _, _⟩ := (HQ.out.nth 3 rfl).rowSlice
      clear hq1 h1 H13 H12
      go_wp2_with fail
      have k1 := (HQ.out.nth 1 rfl).cell 0 (v := .slice A1 b.length c1) rfl
      have k2 := HQ.out.cell 0 (v := .int .i64 0) rfl
      refine leaves_cons (f := 15) (args := #[.pointer (some ⟨g1, 0, none⟩), .pointer (some ⟨g2, 0, none⟩)]) (by simp) (by simp [go_sem]) ?_
      refine (catch_idle _ _ _).mono ?_
      rintro e u' w'' ⟨rfl, rfl, rfl⟩
      simp [Leaves, settle, results, Try.results9, go_sem, k1, k2]
      have e9 : encR m = (b, 0) := by unfold encR; rw [HE.out, HX.out]
      refine ⟨_, by rw [e9], ?_⟩
      rw [e9]
      exact ⟨HQ.out.below, (HQ.out.nth 3 rfl).seps.first⟩
end Go.Proofs.Ytpjljhiohimgcaa.WwW
namespace Go.Proofs.Ytpjljhiohimgcaa.QB
open Go.RowKit Go.Proofs.YtpjljhiohimgcaaW.PrintWords Go.Proofs.YtpjljhiohimgcaaW.PrintLast Go.Proofs.YtpjljhiohimgcaaW.PrintMore
attribute [local go_sem] max2_int min2_int max_two min_two max_three min_three max_four min_four   -- for this text's walks alone
set_option linter.unusedVariables false
set_option linter.unusedSimpArgs false

/-! ### thermographref03_Uvarint: function 30 -/
def thermographref03_Uvarint.l0 : Nat → Int → List Int → Option (List Int)
  | 0, _, _ => none
  | k + 1, x1, x5 => if x1 ≥ 128 then (if x5.length < 140737488355328 then (thermographref03_Uvarint.l0 k (IntKind.u64.wrap (Int.tdiv x1 128)) (x5 ++ [(IntKind.u64.wrap ((Int.tmod x1 128) + 128)) % 256])) else (none)) else (if x5.length < 140737488355328 then (some (x5 ++ [(x1) % 256])) else (none))
def thermographref03_Uvarint.f (k : Nat) (l0 : List Int) (a1 : Int) : Option (List Int) := (some (([] : List Int) : List Int)).bind fun y117 => (if y117.length + l0.length < 140737488355328 then (thermographref03_Uvarint.l0 k a1 (y117 ++ l0)) else (none))
theorem thermographref03_Uvarint.mono_l : ∀ k, (∀ y0 y1, LeO (thermographref03_Uvarint.l0 k y0 y1) (thermographref03_Uvarint.l0 (k + 1) y0 y1))
  | 0 => fun _ _ r h => by simp [thermographref03_Uvarint.l0] at h
  | k + 1 => by
    have ih0 := thermographref03_Uvarint.mono_l k
    · intro y0 y1
      unfold thermographref03_Uvarint.l0
      repeat' first
      | (with_reducible exact ih0 _ _)
      | (with_reducible exact LeO.refl _)
      | (with_reducible exact LeO.none _)
      | (with_reducible refine LeO.ite ?_ ?_)
      | (with_reducible refine LeO.bind ?_ (fun _ => ?_))
      | exact ih0 _ _
      | exact LeO.none _
      | refine LeO.ite ?_ ?_
      | refine LeO.bind ?_ (fun _ => ?_)
theorem thermographref03_Uvarint.mono : ∀ a0 a1 k, LeO (thermographref03_Uvarint.f k a0 a1) (thermographref03_Uvarint.f (k + 1) a0 a1) := by
  intro a0 a1 k
  have ih0 := thermographref03_Uvarint.mono_l k
  unfold thermographref03_Uvarint.f
  repeat' first
      | (with_reducible exact ih0 _ _)
      | (with_reducible exact LeO.refl _)
      | (with_reducible exact LeO.none _)
      | (with_reducible refine LeO.ite ?_ ?_)
      | (with_reducible refine LeO.bind ?_ (fun _ => ?_))
      | exact ih0 _ _
      | exact LeO.none _
      | refine LeO.ite ?_ ?_
      | refine LeO.bind ?_ (fun _ => ?_)
set_option maxHeartbeats 8000000 in
set_option maxRecDepth 100000 in
theorem thermographref03_Uvarint.calls (k : Nat) (A0 : Option Addr) (c0 : Nat) (l0 : List Int) (a1 : Int) (r : List Int) (w : World) (hr0 : Kd.C (Kd.int .u8) w A0 l0.length l0) (hc0 : l0.length ≤ c0) (h : thermographref03_Uvarint.f k l0 a1 = some r) :
    Calls Try.prog 30 #[.slice A0 l0.length c0, .int .u64 a1] w fun e w' => ∃ v0_ : Value, e = .returned (v0_) ∧ Kd.R (Kd.int .u8) 5 w' w.heap.size (fun _ => True) v0_ r ∧ Below w.heap.size w w' := by
  have HR0 := Aside0.mk hr0
  have HC0 := Aside0.mk hc0
  clear hr0 hc0
  have HB := Aside0.mk (Below.refl w.heap.size w)
  have H : ((some (([] : List Int) : List Int)).bind fun y117 => (if y117.length + l0.length < 140737488355328 then (thermographref03_Uvarint.l0 k a1 (y117 ++ l0)) else (none))) = some r := h
  clear h
  obtain ⟨y117, hy117⟩ : ∃ y_ : List Int, y_ = (([] : List Int)) := ⟨_, rfl⟩
  replace H : (if y117.length + l0.length < 140737488355328 then (thermographref03_Uvarint.l0 k a1 (y117 ++ l0)) else (none)) = some r := by first | (rw [hy117]; with_reducible exact H) | (have H2_ := (Option.bind_some _ _).symm.trans H; rw [hy117]; with_reducible exact H2_) | (have H2_ := (Option.bind_some _ _).symm.trans H; with_reducible exact H2_) | with_reducible exact H | (rw [hy117]; exact H) | exact H
  have Ny117 := Aside0.mk hy117
  clear hy117
  by_cases c3 : y117.length + l0.length < 140737488355328
  · rw [if_pos c3] at H
    have LMc3 := Aside0.mk c3
    clear c3
    obtain ⟨y120, hy120⟩ : ∃ y_ : List Int, y_ = (y117 ++ l0) := ⟨_, rfl⟩
    replace H : (thermographref03_Uvarint.l0 k a1 y120) = some r := by first | (rw [hy120]; with_reducible exact H) | (have H2_ := (Option.bind_some _ _).symm.trans H; rw [hy120]; with_reducible exact H2_) | (have H2_ := (Option.bind_some _ _).symm.trans H; with_reducible exact H2_) | with_reducible exact H | (rw [hy120]; exact H) | exact H
    have Ny120 := Aside0.mk hy120
    clear hy120
    have H' := Aside0.mk H
    clear H
    go_enter Try.func30, Try.ntmps30
    go_wp2_with (first | ((with_reducible refine gate_dst (N := 6) rfl ?_); refine Kd.R_lit (Kd.int .u8) _ 5 ?hg (N := 6) ?hd (xs := ([] : List Int)) (inner := []) (ok := fun _ => True) (okp := fun _ => True) ?hr ?hp (fun _ hk => hk) trivial (Below.refl _ _) (Nat.le_refl _) (by simp) ?_; (case hd => rfl); (case hg => rfl); (case hr => first | (go_simp; done) | (go_simp; rfl)); (case hp => exact (Reps.none _ _)); intro v118 w4 ho5 hb hg_ hnew_; clear hg_ hnew_; (first | rw [← Ny117.out] at ho5 | (simp only [Int.reduceToNat] at ho5; rw [← Ny117.out] at ho5)); have n0_ := Aside0.mk (Kd.R_lower ho5 (below_size (by repeat (first | (with_reducible first | exact HB.out | apply below_alloc | apply pw_below_drewN | apply below_drew1) | exact HB.out)))); have n1_ := Aside0.mk (below_step (by repeat (first | (with_reducible first | exact HB.out | apply below_alloc | apply pw_below_drewN | apply below_drew1) | exact HB.out)) hb); clear HB; have HO119 := n0_; have HB := n1_; clear n0_ n1_; clear hb ho5) | ((with_reducible refine gate_builtin (b := .append) (xs := #[.tmp 7, .tmp 8]) rfl ?_); at_builtin; refine Kd.R_append_rows (Kd.int .u8) (w0 := w) w.heap.size rfl (.tmp 7) (.tmp 8) 33 5 (.int .u8 0) 1 rfl Try.underlying33 info5 rfl (by decide) (by omega) v118 y117 l0 _ _ _ (fun _ => True) (fun _ => False) rfl rfl ?aO ?aR (fun _ _ h => h) (fun _ h => h.elim) ?aF ?aB ?aS ?aL ?_; (case aR => repeat (first | exact (Kd.C_below HR0.out HB.out) | (with_reducible refine Kd.C_alloc ?_ _) | (with_reducible refine Kd.C_drewN ?_ _) | (with_reducible refine Kd.C_drew ?_))); (case aB => exact (by repeat (first | (with_reducible first | exact HB.out | apply below_alloc | apply pw_below_drewN | apply below_drew1) | exact HB.out))); (case aF => exact (fun _ _ => trivial)); (case aO => exact (by (with_reducible repeat (first | apply Kd.R_alloc | apply Kd.R_drewN | apply Kd.R_drew)); exact HO119.out)); (case aS => exact (below_size (by repeat (first | (with_reducible first | exact HB.out | apply below_alloc | apply pw_below_drewN | apply below_drew1) | exact HB.out)))); (case aL => have := LMc3.out; omega); intro v121 w6 ho hb hg hat; rw [← Ny120.out] at ho; have n0_ := Aside0.mk (hb); have n1_ := Aside0.mk (ho); clear HB; clear HO119; have HB := n0_; have HO122 := n1_; clear n0_ n1_; clear ho hb hg hat))
    go_loopg [1, 5] k (fun kq v1 v5 w' => ∃ (x1_1 : Int) (x5_1 : List Int), v1 = .int .u64 x1_1 ∧ Aside0 (thermographref03_Uvarint.l0 kq x1_1 x5_1 = some r) ∧ Aside0 (kq ≤ k) ∧ Aside0 (Kd.R (Kd.int .u8) 5 w' w.heap.size (fun _ => True) v5 x5_1) ∧ Aside0 (Below w.heap.size w w'))
    case atStart => exact ⟨(a1), (y120), (by first | rfl | (simp; done) | (simp [*]; done)), H', ⟨Nat.le_refl _⟩, ⟨by (with_reducible repeat (first | apply Kd.R_alloc | apply Kd.R_drewN | apply Kd.R_drew)); exact HO122.out⟩, ⟨by repeat (first | (with_reducible first | exact HB.out | apply below_alloc | apply pw_below_drewN | apply below_drew1) | exact HB.out)⟩⟩
    case round =>
      clear H'
      try clear p2
      try clear c3
      obtain ⟨x1_1, x5_1, rfl, HA, HK1, HO_5, HB⟩ := hrel
      cases gk with
      | zero => exact absurd HA.out (by simp [thermographref03_Uvarint.l0])
      | succ k1 =>
        have H := HA.out
        clear HA
        simp only [thermographref03_Uvarint.l0] at H
        by_cases c7 : x1_1 ≥ 128
        · rw [if_pos c7] at H
          have c7b0 : decide (128 ≤ x1_1) = true := decide_eq_true c7
          clear c7
          by_cases c8 : x5_1.length < 140737488355328
          · rw [if_pos c8] at H
            have LMc8 := Aside0.mk c8
            clear c8
            obtain ⟨y123, hy123⟩ : ∃ y_ : List Int, y_ = (x5_1 ++ [(IntKind.u64.wrap ((Int.tmod x1_1 128) + 128)) % 256]) := ⟨_, rfl⟩
            replace H : (thermographref03_Uvarint.l0 k1 (IntKind.u64.wrap (Int.tdiv x1_1 128)) y123) = some r := by first | (rw [hy123]; with_reducible exact H) | (have H2_ := (Option.bind_some _ _).symm.trans H; rw [hy123]; with_reducible exact H2_) | (have H2_ := (Option.bind_some _ _).symm.trans H; with_reducible exact H2_) | with_reducible exact H | (rw [hy123]; exact H) | exact H
            have Ny123 := Aside0.mk hy123
            clear hy123
            have H' := Aside0.mk H
            clear H
            go_wp2_with (first | ((with_reducible refine gate_builtin (b := .append) (xs := #[.tmp 12, .tmp 17]) rfl ?_); at_builtin; refine Kd.R_append (Kd.int .u8) (w0 := w) w.heap.size rfl (.tmp 12) (.tmp 17) 33 5 (.int .u8 0) 1 rfl Try.underlying33 info5 rfl (by decide) (by omega) u5 x5_1 ((IntKind.u64.wrap ((Int.tmod x1_1 128) + 128)) % 256) [.int .u8 ((IntKind.u64.wrap ((Int.tmod x1_1 128) + 128)) % 256)] (fun _ => True) (fun _ => False) rfl rfl ?aP (fun _ hk => hk.elim) ?aF ?aO ?aB ?aS ?aL ?_; (case aP => exact rfl); (case aB => exact (by repeat (first | (with_reducible first | exact HB.out | apply below_alloc | apply pw_below_drewN | apply below_drew1) | exact HB.out))); (case aF => exact (fun _ _ => trivial)); (case aO => exact (by (with_reducible repeat (first | apply Kd.R_alloc | apply Kd.R_drewN | apply Kd.R_drew)); exact HO_5.out)); (case aS => exact (below_size (by repeat (first | (with_reducible first | exact HB.out | apply below_alloc | apply pw_below_drewN | apply below_drew1) | exact HB.out)))); (case aL => have := LMc8.out; omega); intro v124 w9 ho hb hg hat; rw [← Ny123.out] at ho; have n0_ := Aside0.mk (hb); have n1_ := Aside0.mk (ho); clear HB; clear HO_5; have HB := n0_; have HO125 := n1_; clear n0_ n1_; clear ho hb hg hat))
            go_roundg k1
            case measure => have := HK1.out; omega
            case rel => exact ⟨(IntKind.u64.wrap (Int.tdiv x1_1 128)), (y123), (by first | rfl | (simp; done) | (simp [*]; done)), H', ⟨by have := HK1.out; omega⟩, ⟨by (with_reducible repeat (first | apply Kd.R_alloc | apply Kd.R_drewN | apply Kd.R_drew)); exact HO125.out⟩, ⟨by repeat (first | (with_reducible first | exact HB.out | apply below_alloc | apply pw_below_drewN | apply below_drew1) | exact HB.out)⟩⟩
          · rw [if_neg c8] at H
            exact absurd H (by simp)
        · rw [if_neg c7] at H
          have c7b0 : decide (128 ≤ x1_1) = false := decide_eq_false c7
          clear c7
          by_cases c10 : x5_1.length < 140737488355328
          · rw [if_pos c10] at H
            have LMc10 := Aside0.mk c10
            clear c10
            obtain ⟨y126, hy126⟩ : ∃ y_ : List Int, y_ = (x5_1 ++ [(x1_1) % 256]) := ⟨_, rfl⟩
            replace H : (some y126) = some r := by first | (rw [hy126]; with_reducible exact H) | (have H2_ := (Option.bind_some _ _).symm.trans H; rw [hy126]; with_reducible exact H2_) | (have H2_ := (Option.bind_some _ _).symm.trans H; with_reducible exact H2_) | with_reducible exact H | (rw [hy126]; exact H) | exact H
            have Ny126 := Aside0.mk hy126
            clear hy126
            obtain rfl := Option.some.inj H
            go_wp2_with (first | ((with_reducible refine gate_builtin (b := .append) (xs := #[.tmp 21, .tmp 24]) rfl ?_); at_builtin; refine Kd.R_append (Kd.int .u8) (w0 := w) w.heap.size rfl (.tmp 21) (.tmp 24) 33 5 (.int .u8 0) 1 rfl Try.underlying33 info5 rfl (by decide) (by omega) u5 x5_1 ((x1_1) % 256) [.int .u8 ((x1_1) % 256)] (fun _ => True) (fun _ => False) rfl rfl ?aP (fun _ hk => hk.elim) ?aF ?aO ?aB ?aS ?aL ?_; (case aP => exact rfl); (case aB => exact (by repeat (first | (with_reducible first | exact HB.out | apply below_alloc | apply pw_below_drewN | apply below_drew1) | exact HB.out))); (case aF => exact (fun _ _ => trivial)); (case aO => exact (by (with_reducible repeat (first | apply Kd.R_alloc | apply Kd.R_drewN | apply Kd.R_drew)); exact HO_5.out)); (case aS => exact (below_size (by repeat (first | (with_reducible first | exact HB.out | apply below_alloc | apply pw_below_drewN | apply below_drew1) | exact HB.out)))); (case aL => have := LMc10.out; omega); intro v127 w11 ho hb hg hat; rw [← Ny126.out] at ho; have n0_ := Aside0.mk (hb); have n1_ := Aside0.mk (ho); clear HB; clear HO_5; have HB := n0_; have HO128 := n1_; clear n0_ n1_; clear ho hb hg hat))
            go_ret
            exact ⟨_, by first | rfl | (simp [errW_none, errW_some] <;> rfl) | (simp [*, errW_none, errW_some] <;> rfl), by (with_reducible repeat (first | apply Kd.R_alloc | apply Kd.R_drewN | apply Kd.R_drew)); exact HO128.out, by repeat (first | (with_reducible first | exact HB.out | apply below_alloc | apply pw_below_drewN | apply below_drew1) | exact HB.out)⟩
          · rw [if_neg c10] at H
            exact absurd H (by simp)
  · rw [if_neg c3] at H
    exact absurd H (by simp)

end Go.Proofs.Ytpjljhiohimgcaa.QB
