/- What the call of the document's fields comes to.
   What the call of the document's encoder of messages comes to. -/
import Derived.Test.YtpjljhiohimgcaaZWireFields13
namespace Go.Proofs.Ytpjljhiohimgcaa.RoW
open Go.RowKit Go.Proofs.YtpjljhiohimgcaaW.PrintWords Go.Proofs.YtpjljhiohimgcaaW.PrintLast Go.Proofs.YtpjljhiohimgcaaW.PrintMore Go.Proofs.Ytpjljhiohimgcaa.QB Go.Proofs.Ytpjljhiohimgcaa.Sl Go.Proofs.Ytpjljhiohimgcaa.Uv Go.Proofs.Ytpjljhiohimgcaa.UvP Go.Proofs.Ytpjljhiohimgcaa.UvR Go.Proofs.Ytpjljhiohimgcaa.WpP
set_option linter.unusedVariables false
set_option linter.unusedSimpArgs false
theorem bind_eq {f g : List Int → R} (r : R) (h : ∀ b, f b = g b) : r.bind f = r.bind g := by
  have e : f = g := funext h
  rw [e]
theorem point3_calls (w0 w : World) (L : List Asn) (g n : Nat) (r : R) (t v s : Int) (hv : 0 ≤ v ∧ v < 18446744073709551616) (hs : 0 ≤ s ∧ s < 18446744073709551616) (hn : n ≤ 900000) (h : Sat w0 w (Ou g n r :: L)) :
    Calls Try.prog 32 #[.pointer (some ⟨g, 0, none⟩), .agg #[.int .i64 t, .int .u64 v, .int .u64 s]] w fun e w' => e = .returned (.tuple #[]) ∧ Sat w0 w' (Ou g (n + 22) (r.bind (pointE ⟨t, v, s⟩)) :: L) :=
  point_calls w0 w L g n r ⟨t, v, s⟩ ⟨hv, hs⟩ hn h
set_option maxHeartbeats 8000000 in
set_option maxRecDepth 100000 in
theorem fields_calls (w0 w : World) (L : List Asn) (g n : Nat) (r : R) (m : Msg) (Ap : Option Addr) (cp : Nat) (Am : Option Addr) (cm : Nat) (hI : MIn w0 m Ap cp Am cm) (hk0 : ¬ (m.kind < 1 ∨ 8 < m.kind)) (hn : n ≤ 50000) (h : Sat w0 w (Ou g n r :: L)) :
    Calls Try.prog 19 #[.pointer (some ⟨g, 0, none⟩), .agg (m.cs (.slice Ap m.ps.length cp) (.slice Am m.ms.length cm))] w fun e w' => e = .returned (.tuple #[]) ∧ Sat w0 w' (Ou g (n + 13000) (r.bind (kindE m)) :: L) := by
  have HI := Aside0.mk hI
  have HK0 := Aside0.mk hk0
  obtain ⟨cs, hcs⟩ : ∃ cs, m.cs (.slice Ap m.ps.length cp) (.slice Am m.ms.length cm) = cs := ⟨_, rfl⟩
  have H1 : Aside0 (Sat w0 (w.alloc (.cells cs 37)) (Ou g n r :: Blk w.heap.size cs 37 :: L)) := ⟨(h.newBlk cs 37).nth 1 rfl⟩
  have HCS := Aside0.mk hcs
  have HS : ∀ (j : Nat) (v : Value), (m.cs (.slice Ap m.ps.length cp) (.slice Am m.ms.length cm))[j]? = some v → cs[j]? = some v := fun j v h => by rw [← hcs]; exact h
  have HSA := Aside0.mk HS
  rw [hcs]
  clear h hI hcs HS hk0
  go_enter Try.func19, Try.ntmps19
  go_upto_region 1 with fail
  generalize w.alloc (.cells cs 37) = w1 at H1 ⊢
  generalize w.heap.size = gm at H1 ⊢
  have x3 := (H1.out.nth 1 rfl).cell 13 (v := .bool m.more) (HSA.out 13 _ rfl)
  have H2 := H1
  have hc : (m.more = true ∧ (if m.more = true then (1 : Int) else 0) = 1) ∨ (m.more = false ∧ (if m.more = true then (1 : Int) else 0) = 0) := by
    by_cases hmo : m.more = true
    · exact .inl ⟨hmo, if_pos hmo⟩
    · exact .inr ⟨by simpa using hmo, if_neg hmo⟩
  clear H1
  rcases hc with ⟨hmo, hq⟩ | ⟨hmo, hq⟩
  all_goals
    have HQ := Aside0.mk hq
    rw [hmo] at x3
    clear hmo hq
    go_upto_region 4 with fail
    clear x3
    have x0 := (H2.out.nth 1 rfl).cell 0 (v := .int .i64 m.kind) (HSA.out 0 _ rfl)
    by_cases hk : m.kind = 1
    · rw [hk] at x0
      have HK : Aside0 (r.bind (kindE m) = (((r.bind (numE m.space 255)).bind (nameE m.id)).bind (pointE ⟨m.t, m.v, m.s⟩))) := ⟨by (try simp only [bind_bind]); refine bind_eq r (fun b => ?_); simp only [kindE, spanE, hk, bind_bind]; rfl⟩
      clear hk
      have y0 := (H2.out.nth 1 rfl).cell 3 (v := .int .i64 m.space) (HSA.out 3 _ rfl)
      go_wp2_with (first | (go_at_call 18; go_loud ((with_reducible refine (number_calls w0 _ _ g _ _ m.space 255 (by omega) (by omega) H2.out).mono ?_); rintro e w3 ⟨rfl, hs⟩; have H3 := Aside0.mk hs; have y0 := (hs.nth 1 rfl).cell 5 (v := .string m.id) (HSA.out 5 _ rfl); clear hs)) | (go_at_call 31; go_loud ((with_reducible refine (name_calls w0 _ _ g _ _ m.id (by omega) H3.out).mono ?_); rintro e w4 ⟨rfl, hs⟩; have H4 := Aside0.mk hs; have y0 := (hs.nth 1 rfl).cell 9 (v := .int .i64 m.t) (HSA.out 9 _ rfl); have y1 := (hs.nth 1 rfl).cell 10 (v := .int .u64 m.v) (HSA.out 10 _ rfl); have y2 := (hs.nth 1 rfl).cell 11 (v := .int .u64 m.s) (HSA.out 11 _ rfl); clear hs)) | (go_at_call 32; go_loud ((with_reducible refine (point3_calls w0 _ _ g _ _ m.t m.v m.s HI.out.okv.1 HI.out.okv.2 (by omega) H4.out).mono ?_); rintro e w5 ⟨rfl, hs⟩; have H5 := Aside0.mk hs; skip; clear hs)))
      go_end0
      refine ⟨rfl, ?_⟩
      rw [HK.out]
      try rw [HQ.out]
      exact Ou.mono (by omega) (H5.out.nth 1 rfl).tail
    by_cases hk : m.kind = 2
    · rw [hk] at x0
      have HK : Aside0 (r.bind (kindE m) = (r.bind (numE m.err 255))) := ⟨by (try simp only [bind_bind]); refine bind_eq r (fun b => ?_); simp only [kindE, spanE, hk, bind_bind]; rfl⟩
      clear hk
      have y0 := (H2.out.nth 1 rfl).cell 12 (v := .int .i64 m.err) (HSA.out 12 _ rfl)
      go_wp2_with (first | (go_at_call 18; go_loud ((with_reducible refine (number_calls w0 _ _ g _ _ m.err 255 (by omega) (by omega) H2.out).mono ?_); rintro e w3 ⟨rfl, hs⟩; have H3 := Aside0.mk hs; skip; clear hs)))
      go_end0
      refine ⟨rfl, ?_⟩
      rw [HK.out]
      try rw [HQ.out]
      exact Ou.mono (by omega) (H3.out.nth 1 rfl).tail
    by_cases hk : m.kind = 3
    · rw [hk] at x0
      have HK : Aside0 (r.bind (kindE m) = ((((r.bind (numE m.space 255)).bind (nameE m.id)).bind (numE m.lo 1099511627777)).bind (numE m.hi 1099511627777))) := ⟨by (try simp only [bind_bind]); refine bind_eq r (fun b => ?_); simp only [kindE, spanE, hk, bind_bind]; rfl⟩
      clear hk
      have y0 := (H2.out.nth 1 rfl).cell 3 (v := .int .i64 m.space) (HSA.out 3 _ rfl)
      go_wp2_with (first | (go_at_call 18; go_loud ((with_reducible refine (number_calls w0 _ _ g _ _ m.space 255 (by omega) (by omega) H2.out).mono ?_); rintro e w3 ⟨rfl, hs⟩; have H3 := Aside0.mk hs; have y0 := (hs.nth 1 rfl).cell 5 (v := .string m.id) (HSA.out 5 _ rfl); clear hs)) | (go_at_call 31; go_loud ((with_reducible refine (name_calls w0 _ _ g _ _ m.id (by omega) H3.out).mono ?_); rintro e w4 ⟨rfl, hs⟩; have H4 := Aside0.mk hs; have y0 := (hs.nth 1 rfl).cell 7 (v := .int .i64 m.lo) (HSA.out 7 _ rfl); clear hs)) | (go_at_call 18; go_loud ((with_reducible refine (number_calls w0 _ _ g _ _ m.lo 1099511627777 (by omega) (by omega) H4.out).mono ?_); rintro e w5 ⟨rfl, hs⟩; have H5 := Aside0.mk hs; have y0 := (hs.nth 1 rfl).cell 8 (v := .int .i64 m.hi) (HSA.out 8 _ rfl); clear hs)) | (go_at_call 18; go_loud ((with_reducible refine (number_calls w0 _ _ g _ _ m.hi 1099511627777 (by omega) (by omega) H5.out).mono ?_); rintro e w6 ⟨rfl, hs⟩; have H6 := Aside0.mk hs; skip; clear hs)))
      go_end0
      refine ⟨rfl, ?_⟩
      rw [HK.out]
      try rw [HQ.out]
      exact Ou.mono (by omega) (H6.out.nth 1 rfl).tail
    by_cases hk : m.kind = 4
    · rw [hk] at x0
      have HK : Aside0 (r.bind (kindE m) = ((r.bind (numE m.err 255)).bind (pointsE m.ps))) := ⟨by (try simp only [bind_bind]); refine bind_eq r (fun b => ?_); simp only [kindE, spanE, hk, bind_bind]; rfl⟩
      clear hk
      have y0 := (H2.out.nth 1 rfl).cell 12 (v := .int .i64 m.err) (HSA.out 12 _ rfl)
      go_wp2_with (first | (go_at_call 18; go_loud ((with_reducible refine (number_calls w0 _ _ g _ _ m.err 255 (by omega) (by omega) H2.out).mono ?_); rintro e w3 ⟨rfl, hs⟩; have H3 := Aside0.mk hs; have y0 := (hs.nth 1 rfl).cell 14 (v := .slice Ap m.ps.length cp) (HSA.out 14 _ rfl); clear hs)) | (go_at_call 33; go_loud ((with_reducible refine (points_calls w0 _ _ g _ _ Ap cp m.ps HI.out.okp HI.out.lp HI.out.cp HI.out.hp (by omega) H3.out).mono ?_); rintro e w4 ⟨rfl, hs⟩; have H4 := Aside0.mk hs; skip; clear hs)))
      go_end0
      refine ⟨rfl, ?_⟩
      rw [HK.out]
      try rw [HQ.out]
      exact Ou.mono (by omega) (H4.out.nth 1 rfl).tail
    by_cases hk : m.kind = 8
    · rw [hk] at x0
      have HK : Aside0 (r.bind (kindE m) = ((r.bind (numE m.err 255)).bind (pointsE m.ps))) := ⟨by (try simp only [bind_bind]); refine bind_eq r (fun b => ?_); simp only [kindE, spanE, hk, bind_bind]; rfl⟩
      clear hk
      have y0 := (H2.out.nth 1 rfl).cell 12 (v := .int .i64 m.err) (HSA.out 12 _ rfl)
      go_wp2_with (first | (go_at_call 18; go_loud ((with_reducible refine (number_calls w0 _ _ g _ _ m.err 255 (by omega) (by omega) H2.out).mono ?_); rintro e w3 ⟨rfl, hs⟩; have H3 := Aside0.mk hs; have y0 := (hs.nth 1 rfl).cell 14 (v := .slice Ap m.ps.length cp) (HSA.out 14 _ rfl); clear hs)) | (go_at_call 33; go_loud ((with_reducible refine (points_calls w0 _ _ g _ _ Ap cp m.ps HI.out.okp HI.out.lp HI.out.cp HI.out.hp (by omega) H3.out).mono ?_); rintro e w4 ⟨rfl, hs⟩; have H4 := Aside0.mk hs; skip; clear hs)))
      go_end0
      refine ⟨rfl, ?_⟩
      rw [HK.out]
      try rw [HQ.out]
      exact Ou.mono (by omega) (H4.out.nth 1 rfl).tail
    by_cases hk : m.kind = 5
    · rw [hk] at x0
      have HK : Aside0 (r.bind (kindE m) = ((((((r.bind (numE m.space 255)).bind (numE m.shard 255)).bind (numE m.lo 1099511627777)).bind (numE m.hi 1099511627777)).bind (numE m.block 1099511627776)).bind (nameE m.id))) := ⟨by (try simp only [bind_bind]); refine bind_eq r (fun b => ?_); simp only [kindE, spanE, hk, bind_bind]; rfl⟩
      clear hk
      have y0 := (H2.out.nth 1 rfl).cell 3 (v := .int .i64 m.space) (HSA.out 3 _ rfl)
      go_wp2_with (first | (go_at_call 18; go_loud ((with_reducible refine (number_calls w0 _ _ g _ _ m.space 255 (by omega) (by omega) H2.out).mono ?_); rintro e w3 ⟨rfl, hs⟩; have H3 := Aside0.mk hs; have y0 := (hs.nth 1 rfl).cell 4 (v := .int .i64 m.shard) (HSA.out 4 _ rfl); clear hs)) | (go_at_call 18; go_loud ((with_reducible refine (number_calls w0 _ _ g _ _ m.shard 255 (by omega) (by omega) H3.out).mono ?_); rintro e w4 ⟨rfl, hs⟩; have H4 := Aside0.mk hs; have y0 := (hs.nth 1 rfl).cell 7 (v := .int .i64 m.lo) (HSA.out 7 _ rfl); clear hs)) | (go_at_call 18; go_loud ((with_reducible refine (number_calls w0 _ _ g _ _ m.lo 1099511627777 (by omega) (by omega) H4.out).mono ?_); rintro e w5 ⟨rfl, hs⟩; have H5 := Aside0.mk hs; have y0 := (hs.nth 1 rfl).cell 8 (v := .int .i64 m.hi) (HSA.out 8 _ rfl); clear hs)) | (go_at_call 18; go_loud ((with_reducible refine (number_calls w0 _ _ g _ _ m.hi 1099511627777 (by omega) (by omega) H5.out).mono ?_); rintro e w6 ⟨rfl, hs⟩; have H6 := Aside0.mk hs; have y0 := (hs.nth 1 rfl).cell 6 (v := .int .i64 m.block) (HSA.out 6 _ rfl); clear hs)) | (go_at_call 18; go_loud ((with_reducible refine (number_calls w0 _ _ g _ _ m.block 1099511627776 (by omega) (by omega) H6.out).mono ?_); rintro e w7 ⟨rfl, hs⟩; have H7 := Aside0.mk hs; have y0 := (hs.nth 1 rfl).cell 5 (v := .string m.id) (HSA.out 5 _ rfl); clear hs)) | (go_at_call 31; go_loud ((with_reducible refine (name_calls w0 _ _ g _ _ m.id (by omega) H7.out).mono ?_); rintro e w8 ⟨rfl, hs⟩; have H8 := Aside0.mk hs; skip; clear hs)))
      go_end0
      refine ⟨rfl, ?_⟩
      rw [HK.out]
      try rw [HQ.out]
      exact Ou.mono (by omega) (H8.out.nth 1 rfl).tail
    by_cases hk : m.kind = 6
    · rw [hk] at x0
      have HK : Aside0 (r.bind (kindE m) = (((r.bind (numE m.err 255)).bind (numE (if m.more = true then 1 else 0) 1)).bind (metasE m.ms))) := ⟨by (try simp only [bind_bind]); refine bind_eq r (fun b => ?_); simp only [kindE, spanE, hk, bind_bind]; rfl⟩
      clear hk
      have y0 := (H2.out.nth 1 rfl).cell 12 (v := .int .i64 m.err) (HSA.out 12 _ rfl)
      go_wp2_with (first | (go_at_call 18; go_loud ((with_reducible refine (number_calls w0 _ _ g _ _ m.err 255 (by omega) (by omega) H2.out).mono ?_); rintro e w3 ⟨rfl, hs⟩; have H3 := Aside0.mk hs; skip; clear hs)) | (go_at_call 18; go_loud ((with_reducible refine (number_calls w0 _ _ g _ _ _ 1 (by omega) (by omega) H3.out).mono ?_); rintro e w4 ⟨rfl, hs⟩; have H4 := Aside0.mk hs; have y0 := (hs.nth 1 rfl).cell 15 (v := .slice Am m.ms.length cm) (HSA.out 15 _ rfl); clear hs)) | (go_at_call 34; go_loud ((with_reducible refine (metas_calls w0 _ _ g _ _ Am cm m.ms HI.out.okm HI.out.lm HI.out.cm HI.out.hm (by omega) H4.out).mono ?_); rintro e w5 ⟨rfl, hs⟩; have H5 := Aside0.mk hs; skip; clear hs)))
      go_end0
      refine ⟨rfl, ?_⟩
      rw [HK.out]
      try rw [HQ.out]
      exact Ou.mono (by omega) (H5.out.nth 1 rfl).tail
    by_cases hk : m.kind = 7
    · rw [hk] at x0
      have HK : Aside0 (r.bind (kindE m) = ((((r.bind (numE m.space 255)).bind (numE m.shard 255)).bind (numE m.block 1099511627776)).bind (nameE m.id))) := ⟨by (try simp only [bind_bind]); refine bind_eq r (fun b => ?_); simp only [kindE, spanE, hk, bind_bind]; rfl⟩
      clear hk
      have y0 := (H2.out.nth 1 rfl).cell 3 (v := .int .i64 m.space) (HSA.out 3 _ rfl)
      go_wp2_with (first | (go_at_call 18; go_loud ((with_reducible refine (number_calls w0 _ _ g _ _ m.space 255 (by omega) (by omega) H2.out).mono ?_); rintro e w3 ⟨rfl, hs⟩; have H3 := Aside0.mk hs; have y0 := (hs.nth 1 rfl).cell 4 (v := .int .i64 m.shard) (HSA.out 4 _ rfl); clear hs)) | (go_at_call 18; go_loud ((with_reducible refine (number_calls w0 _ _ g _ _ m.shard 255 (by omega) (by omega) H3.out).mono ?_); rintro e w4 ⟨rfl, hs⟩; have H4 := Aside0.mk hs; have y0 := (hs.nth 1 rfl).cell 6 (v := .int .i64 m.block) (HSA.out 6 _ rfl); clear hs)) | (go_at_call 18; go_loud ((with_reducible refine (number_calls w0 _ _ g _ _ m.block 1099511627776 (by omega) (by omega) H4.out).mono ?_); rintro e w5 ⟨rfl, hs⟩; have H5 := Aside0.mk hs; have y0 := (hs.nth 1 rfl).cell 5 (v := .string m.id) (HSA.out 5 _ rfl); clear hs)) | (go_at_call 31; go_loud ((with_reducible refine (name_calls w0 _ _ g _ _ m.id (by omega) H5.out).mono ?_); rintro e w6 ⟨rfl, hs⟩; have H6 := Aside0.mk hs; skip; clear hs)))
      go_end0
      refine ⟨rfl, ?_⟩
      rw [HK.out]
      try rw [HQ.out]
      exact Ou.mono (by omega) (H6.out.nth 1 rfl).tail
    exact absurd HK0.out (by omega)
end Go.Proofs.Ytpjljhiohimgcaa.RoW
namespace Go.Proofs.Ytpjljhiohimgcaa.RoW
open Go.RowKit Go.Proofs.YtpjljhiohimgcaaW.PrintWords Go.Proofs.YtpjljhiohimgcaaW.PrintLast Go.Proofs.YtpjljhiohimgcaaW.PrintMore Go.Proofs.Ytpjljhiohimgcaa.QB Go.Proofs.Ytpjljhiohimgcaa.Sl Go.Proofs.Ytpjljhiohimgcaa.Uv Go.Proofs.Ytpjljhiohimgcaa.UvP Go.Proofs.Ytpjljhiohimgcaa.UvR Go.Proofs.Ytpjljhiohimgcaa.WpP
set_option linter.unusedVariables false
set_option linter.unusedSimpArgs false
theorem EncOut.good {m : Msg} {b : List Int} {w w' : World} {e : Ending} {v : Value} {L : List Asn} (hd : encM m = .ok b) (he : e = .returned (.tuple #[v, .int .i64 0])) (hs : Sat w w' (Row (Kd.int .u8) 5 v b :: L)) : EncOut m w e w' := by
  have e1 : encR m = (b, 0) := by unfold encR; rw [hd]
  refine ⟨v, by rw [e1]; exact he, ?_⟩
  rw [e1]
  exact ⟨hs.below, hs.seps.first⟩
def Re.T4 : Bool × List (List Nat × List Nat) := (true, [([], []), ([], []), ([1], [1]), ([2], [2]), ([3], [3]), ([], []), ([5], [5]), ([6], [6]), ([7], [7]), ([4, 8], [4, 8]), ([0, 0, 1, 2, 3, 4, 5, 6, 7, 8, 9], [0]), ([10, 0, 1, 2, 3, 4, 5, 6, 7, 8, 9], [10]), ([11, 9, 9, 0, 1, 2, 3, 4, 5, 6, 7, 8, 9], [9, 11])])
def Re.B4 : List Nat := [0, 0, 2, 6, 14, 0, 32, 96, 224, 510, 1023, 2047, 4095]
theorem Re.tab4 : rtab .any (opsOf Try.f10 4) = Re.T4 := by kernel_rfl
theorem Re.bits4 : waitsOk Re.T4.2 Re.B4 = true := by kernel_rfl
set_option maxHeartbeats 8000000 in
set_option maxRecDepth 100000 in
theorem Encode_calls (w : World) (m : Msg) (Ap : Option Addr) (cp : Nat) (Am : Option Addr) (cm : Nat) (hI : MIn w m Ap cp Am cm) :
    Calls Try.prog 10 #[.agg (m.cs (.slice Ap m.ps.length cp) (.slice Am m.ms.length cm))] w (EncOut m w) := by
  have HI := Aside0.mk hI
  have H1 : Aside0 (Sat w (w.alloc (.cells (m.cs (.slice Ap m.ps.length cp) (.slice Am m.ms.length cm)) 37)) (Blk w.heap.size (m.cs (.slice Ap m.ps.length cp) (.slice Am m.ms.length cm)) 37 :: [])) := ⟨(Sat.start w).newBlk _ _⟩
  clear hI
  go_enter Try.func10, Try.ntmps10
  go_upto_region 1 with fail
  generalize w.alloc (.cells (m.cs (.slice Ap m.ps.length cp) (.slice Am m.ms.length cm)) 37) = w1 at H1 ⊢
  generalize w.heap.size = gm at H1 ⊢
  have x0 := H1.out.cell 0 (v := .int .i64 m.kind) rfl
  by_cases hbad : m.kind < 1 ∨ 8 < m.kind
  · have HB := Aside0.mk (show encM m = .error 1 by unfold encM; rw [if_pos hbad])
    by_cases h1 : m.kind < 1
    · have d1 : decide (m.kind < 1) = true := decide_eq_true h1
      clear h1 hbad
      go_wp2
      go_ret2
      exact EncOut.bad HB.out rfl H1.out
    · have d1 : decide (m.kind < 1) = false := decide_eq_false h1
      have d2 : decide (8 < m.kind) = true := decide_eq_true (by omega)
      clear h1 hbad
      go_wp2
      go_ret2
      exact EncOut.bad HB.out rfl H1.out
  · have d1 : decide (m.kind < 1) = false := decide_eq_false (by omega)
    have d2 : decide (8 < m.kind) = false := decide_eq_false (by omega)
    have HBD := Aside0.mk hbad
    have HE := Aside0.mk (show encM m = (((Except.ok [m.kind] : R).bind (numE m.seq 1099511627776)).bind (numE m.epoch 1099511627776)).bind (kindE m) by unfold encM; rw [if_neg hbad, bind_bind]; rfl)
    have e1 : IntKind.u8.wrap m.kind = m.kind := by rw [IntKind.wrap_u8]; omega
    have x9 : (m.cs (.slice Ap m.ps.length cp) (.slice Am m.ms.length cm))[0]? = some (.int .i64 m.kind) := rfl
    have x8 : ∀ (j : Nat) (v : Value), (m.cs (.slice Ap m.ps.length cp) (.slice Am m.ms.length cm))[j]? = some v → (m.cs (.slice Ap m.ps.length cp) (.slice Am m.ms.length cm))[j]? = some v := fun _ _ h => h
    have HSA := Aside0.mk x8
    clear hbad x8
    have hq2 := H1.out.newBlk #[.slice none 0 0, .int .i64 0] 58
    have H2 : Aside0 (Sat w (w1.alloc (.cells #[.slice none 0 0, .int .i64 0] 58)) (Blk w1.heap.size #[.slice none 0 0, .int .i64 0] 58 :: Row (Kd.int .u8) 5 (.slice none 0 0) [] :: Blk gm (m.cs (.slice Ap m.ps.length cp) (.slice Am m.ms.length cm)) 37 :: [])) := ⟨(Sat.nilRow (Kd.int .u8) 5 hq2).nth 1 rfl⟩
    clear hq2
    go_upto_region 4 with fail
    generalize w1.alloc (.cells #[.slice none 0 0, .int .i64 0] 58) = w2 at H2 ⊢
    generalize w1.heap.size = g at H2 ⊢
    have p0 := H2.out.drew.cell 0 (v := .slice none 0 0) rfl
    have p1 := (H2.out.drew.nth 2 rfl).cell 0 (v := .int .i64 m.kind) rfl
    clear x0 H1
    refine start_ (n := 13) (S := fun w' => w'.cell? ⟨g, 0, none⟩ = some (.slice none 0 0) ∧ w'.cell? ⟨gm, 0, none⟩ = some (.int .i64 m.kind)) (ds := [9, 12]) #[false, false, false, false, false, false, false, false, false, false, false, false, false] (by kernel_rfl) rfl rfl ⟨p0, p1⟩ (fun hHeld => ?_)
    refine with_tabW Re.tab4 Re.bits4 (fun HT_ HW_ => ?_)
    refine pure_ (i := 0) (N := some 15) (v := ?_) (a' := ?_) #[true, false, false, false, false, false, false, false, false, false, false, false, false] rfl rfl (any_of HT_.out (by kernel_rfl)) (fun _ _ _ h => h) (Or.inl ⟨by rfl, ?_⟩) ?_ ?_
    rotate_left
    · intro w'
      go_simp
      with_reducible rfl
    rotate_left
    · simp only [Act.put, List.setIfInBounds_toArray, List.set_cons_zero, List.set_cons_succ, i64_w, i32_w]
      rfl
    refine pure_ (i := 1) (N := some 16) (v := ?_) (a' := ?_) #[true, true, false, false, false, false, false, false, false, false, false, false, false] rfl rfl (any_of HT_.out (by kernel_rfl)) (fun _ _ _ h => h) (Or.inl ⟨by rfl, ?_⟩) ?_ ?_
    rotate_left
    · intro w'
      go_simp
      with_reducible rfl
    rotate_left
    · simp only [Act.put, List.setIfInBounds_toArray, List.set_cons_zero, List.set_cons_succ, i64_w, i32_w]
      rfl
    refine pure_ (i := 2) (N := some 17) (v := ?_) (a' := ?_) #[true, true, true, false, false, false, false, false, false, false, false, false, false] rfl rfl (any_of HT_.out (by kernel_rfl)) (fun _ _ _ h => h) (Or.inl ⟨by rfl, ?_⟩) ?_ ?_
    rotate_left
    · intro w'
      go_simp
      with_reducible rfl
    rotate_left
    · simp only [Act.put, List.setIfInBounds_toArray, List.set_cons_zero, List.set_cons_succ, i64_w, i32_w]
      rfl
    refine pure_ (i := 3) (N := some 18) (v := ?_) (a' := ?_) #[true, true, true, true, false, false, false, false, false, false, false, false, false] rfl rfl (any_of HT_.out (by kernel_rfl)) (fun _ _ _ h => h) (Or.inl ⟨by rfl, ?_⟩) ?_ ?_
    rotate_left
    · intro w'
      go_simp
      with_reducible rfl
    rotate_left
    · simp only [Act.put, List.setIfInBounds_toArray, List.set_cons_zero, List.set_cons_succ, i64_w, i32_w]
      rfl
    refine pure_ (i := 5) (N := some 20) (v := ?_) (a' := ?_) #[true, true, true, true, false, true, false, false, false, false, false, false, false] rfl rfl (any_of HT_.out (by kernel_rfl)) (fun _ _ _ h => h) (Or.inl ⟨by rfl, ?_⟩) ?_ ?_
    rotate_left
    · intro w'
      go_simp
      with_reducible rfl
    rotate_left
    · simp only [Act.put, List.setIfInBounds_toArray, List.set_cons_zero, List.set_cons_succ, i64_w, i32_w]
      rfl
    refine take_ (i := 4) (N := some 19) (v := ?_) (a' := ?_) #[true, true, true, true, true, true, false, false, false, false, false, false, false] rfl rfl (take_ofW HT_.out HW_.out (by kernel_rfl)) (fun _ _ _ h => h) (Or.inl ⟨by rfl, ?_⟩) hHeld ?_ ?_
    rotate_left
    · rintro w' ⟨s0, s1⟩
      go_simp
      with_reducible rfl
    rotate_left
    · simp only [Act.put, List.setIfInBounds_toArray, List.set_cons_zero, List.set_cons_succ, i64_w, i32_w]
      rfl
    refine take_ (i := 6) (N := some 21) (v := ?_) (a' := ?_) #[true, true, true, true, true, true, true, false, false, false, false, false, false] rfl rfl (take_ofW HT_.out HW_.out (by kernel_rfl)) (fun _ _ _ h => h) (Or.inl ⟨by rfl, ?_⟩) hHeld ?_ ?_
    rotate_left
    · rintro w' ⟨s0, s1⟩
      go_simp
      with_reducible rfl
    rotate_left
    · simp only [Act.put, List.setIfInBounds_toArray, List.set_cons_zero, List.set_cons_succ, i64_w, i32_w]
      rfl
    refine take_ (i := 7) (N := some 22) (v := ?_) (a' := ?_) #[true, true, true, true, true, true, true, true, false, false, false, false, false] rfl rfl (take_ofW HT_.out HW_.out (by kernel_rfl)) (fun _ _ _ h => h) (Or.inl ⟨by rfl, ?_⟩) hHeld ?_ ?_
    rotate_left
    · rintro w' ⟨s0, s1⟩
      go_simp
      with_reducible rfl
    rotate_left
    · simp only [Act.put, List.setIfInBounds_toArray, List.set_cons_zero, List.set_cons_succ, i64_w, i32_w]
      rfl
    refine one_ (i := 8) (N := some 23) #[true, true, true, true, true, true, true, true, true, false, false, false, false] rfl rfl (one_of HT_.out (by kernel_rfl)) (by decide) (fun K hK => ?_)
    refine value_ (w1 := ?_) (v := ?_) (by rfl) rfl ?_ ?_
    rotate_left 2
    · go_simp
      constructor
      · rfl
      · rfl
    have HA := Aside0.mk (H2.out.alloc (.cells #[.int .u8 m.kind] 5)).drew
    refine hK.out _ _ ⟨(HA.out.cell 0 rfl), ((HA.out.nth 2 rfl).cell 0 x9)⟩ (fun hHeld => ?_)
    clear hK K
    refine norm_ (a' := ?_) ?_ ?_
    rotate_left
    · show Act.put _ (some 23) _ = _
      simp only [Act.put, List.setIfInBounds_toArray, List.set_cons_zero, List.set_cons_succ, i64_w, i32_w]
      rfl
    refine last_ (i := 9) (N := some 24) #[true, true, true, true, true, true, true, true, true, true, false, false, false] rfl rfl (one_of HT_.out (by kernel_rfl)) (by decide) (fun K hK => ?_)
    refine Sat.appendStep (Kd.int .u8) (by rfl) (.tmp 19) (.tmp 23) 33 5 (.int .u8 0) 1 rfl Try.underlying33 infoB rfl (by decide) (by decide) (.slice none 0 0) [] m.kind [.int .u8 m.kind] rfl rfl rfl (H2.out.drew.nth 1 rfl) (by simp) ?_
    intro v2 w5 hs5 _
    obtain ⟨A5, c5, rfl, _, _⟩ := hs5.rowSlice
    have y0 := (hs5.nth 1 rfl).cell 0 (v := .slice none 0 0) rfl
    have y1 := (hs5.nth 1 rfl).free 0
    have H5 := Aside0.mk hs5
    clear hs5
    refine hK.out _ _ ?_
    clear hK K
    refine norm_ (a' := ?_) ?_ ?_
    rotate_left
    · show Act.put _ (some 24) _ = _
      simp only [Act.put, List.setIfInBounds_toArray, List.set_cons_zero, List.set_cons_succ, i64_w, i32_w]
      rfl
    refine pure_ (i := 10) (N := some 25) (v := ?_) (a' := ?_) #[true, true, true, true, true, true, true, true, true, true, true, false, false] rfl rfl (any_of HT_.out (by kernel_rfl)) (fun _ _ _ h => h) (Or.inl ⟨by rfl, ?_⟩) ?_ ?_
    rotate_left
    · intro w'
      go_simp
      with_reducible rfl
    rotate_left
    · simp only [Act.put, List.setIfInBounds_toArray, List.set_cons_zero, List.set_cons_succ, i64_w, i32_w]
      rfl
    refine pure_ (i := 11) (N := some 26) (v := ?_) (a' := ?_) #[true, true, true, true, true, true, true, true, true, true, true, true, false] rfl rfl (any_of HT_.out (by kernel_rfl)) (fun _ _ _ h => h) (Or.inl ⟨by rfl, ?_⟩) ?_ ?_
    rotate_left
    · intro w'
      go_simp
      with_reducible rfl
    rotate_left
    · simp only [Act.put, List.setIfInBounds_toArray, List.set_cons_zero, List.set_cons_succ, i64_w, i32_w]
      rfl
    refine last_ (i := 12) (N := none) #[true, true, true, true, true, true, true, true, true, true, true, true, true] rfl rfl (one_of HT_.out (by kernel_rfl)) (by decide) (fun K hK => ?_)
    refine skip_ (w1 := ?_) (by rfl) rfl ?_ ?_
    rotate_left
    · go_simp
      rfl
    refine hK.out _ _ ?_
    clear hK K
    refine done_ (done_of HT_.out (by kernel_rfl)) ?_
    have H6 : Aside0 (Sat w _ (Ou g 1 (.ok [m.kind]) :: Blk gm (m.cs (.slice Ap m.ps.length cp) (.slice Am m.ms.length cm)) 37 :: [])) := ⟨Ou.mkOk (by simp) rfl (((show Sat w w5 (Blk g _ 58 :: Row (Kd.int .u8) 5 (.slice A5 1 c5) [m.kind] :: Blk gm (m.cs (.slice Ap m.ps.length cp) (.slice Am m.ms.length cm)) 37 :: []) from H5.out.nth 1 rfl).setBlk 0 (.slice A5 1 c5)))⟩
    generalize w5.setCell ⟨g, 0, none⟩ (.slice A5 1 c5) = w6 at H6 ⊢
    clear H5 H2 HA p0 p1 y0 y1 hHeld
    have z0 := (H6.out.nth 1 rfl).cell 1 (v := .int .i64 m.seq) rfl
    go_upto_region 7 with (first | (go_at_call 18; go_loud ((with_reducible refine (number_calls w _ _ g _ _ m.seq 1099511627776 (by omega) (by omega) H6.out).mono ?_); rintro e w7 ⟨rfl, hs⟩; have H7 := Aside0.mk hs; have z1 := (hs.nth 1 rfl).cell 2 (v := .int .i64 m.epoch) rfl; clear hs)) | (go_at_call 18; go_loud ((with_reducible refine (number_calls w _ _ g _ _ m.epoch 1099511627776 (by omega) (by omega) H7.out).mono ?_); rintro e w8 ⟨rfl, hs⟩; have H8 := Aside0.mk hs; clear hs)))
    clear H6 H7 z0 z1
    have hb8 := (H8.out.nth 1 rfl).blk
    have HF8 := Aside0.mk hb8
    clear hb8
    go_upto_region 8 with (first | ((with_reducible refine gate_ (.load 37 (.tmp 1)) rfl ?_); go_loud (refine wpList_load_row rfl 37 (.tmp 1) rfl gm rfl 37 _ (0, 0) _ HF8.out Try.underlying37 rfl (by kernel_rfl) ?_)) | (go_at_call 19; go_loud ((with_reducible refine (fields_calls w _ _ g _ _ m Ap cp Am cm HI.out HBD.out (by omega) H8.out).mono ?_); rintro e w9 ⟨rfl, hs⟩; rw [← HE.out] at hs; have H9 := Aside0.mk hs; clear hs)))
    clear H8 HF8
    rcases hr : encM m with er | b
    · rw [hr] at H9
      obtain ⟨v1, B, hB, hx, h1⟩ := Ou.openBad H9.out
      have x1 := h1.cell 1 (v := .int .i64 er) rfl
      have x2 := h1.drew.cell 1 (v := .int .i64 er) rfl
      have d3 : (er != 0) = true := by rw [bne_iff_ne]; exact hx
      have d4 : (er == 0) = false := by rw [beq_eq_false_iff_ne]; exact hx
      have HR := Aside0.mk hr
      clear hx h1 hr
      go_upto_region 9 with fail
      go_region
      all_goals go_wp2
      all_goals go_ret2
      all_goals exact EncOut.bad HR.out rfl H9.out.drew
    · rw [hr] at H9
      obtain ⟨v1, hB, h1⟩ := Ou.openOk H9.out
      have x1 := h1.cell 1 (v := .int .i64 0) rfl
      have x0 := h1.cell 0 (v := v1) rfl
      have HR := Aside0.mk hr
      have H10 := Aside0.mk (h1.nth 1 rfl)
      clear h1 hr
      go_wp2
      go_ret2
      exact EncOut.good HR.out rfl H10.out
end Go.Proofs.Ytpjljhiohimgcaa.RoW
