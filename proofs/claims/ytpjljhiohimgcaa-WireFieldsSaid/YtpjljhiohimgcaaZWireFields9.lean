/- What the call of wire's fields comes to, by a writer.
   What the call of wire.Encode comes to. -/
import Derived.Test.YtpjljhiohimgcaaZWireFields8
import Derived.Defers
import Derived.Recover
namespace Go.Proofs.Ytpjljhiohimgcaa.WwW
open Go.RowKit Go.Proofs.YtpjljhiohimgcaaW.PrintWords Go.Proofs.YtpjljhiohimgcaaW.PrintLast Go.Proofs.YtpjljhiohimgcaaW.PrintMore Go.Proofs.Ytpjljhiohimgcaa.QB Go.Proofs.Ytpjljhiohimgcaa.Sl Go.Proofs.Ytpjljhiohimgcaa.Uv Go.Proofs.Ytpjljhiohimgcaa.UvP Go.Proofs.Ytpjljhiohimgcaa.WpP
set_option linter.unusedVariables false
set_option linter.unusedSimpArgs false
theorem ldP {α : Type} {d : Kd α} {w0 w : World} {L : List Asn} {A : Option Addr} {n : Nat} {xs : List α} (h : Kd.C d w0 A n xs) (hs : Sat w0 w L) : Kd.C d w A n xs := Kd.C_below h hs.below
/-- What a row of the call's own stands in is free. -/
theorem Sat.rowFree {α : Type} {d : Kd α} {e : Nat} {w0 w : World} {L : List Asn} {ad : Addr} {n c : Nat} {xs : List α} (h : Sat w0 w (Row d e (.slice (some ad) n c) xs :: L)) (j : Nat) : w.frozen? ⟨ad.block, j, none⟩ = false := by
  obtain ⟨G, h1, _⟩ := h.get
  obtain ⟨inner, ho⟩ := Kd.R_own h1
  rcases ho.2 with ⟨e1, _⟩ | ⟨g, cap, cur, e1, _, hg, _⟩
  · cases e1
  · cases e1
    simp [World.frozen?, hg]

/-- What the walk of the fields of one kind bears: the message at gm, its slices, the writer's bytes. -/
structure FIn (w0 : World) (L : List Asn) (m : Msg) (Ap : Option Addr) (cp : Nat) (Am : Option Addr) (cm : Nat) : Prop where
  okp : ∀ x ∈ m.ps, OkPt x
  okm : ∀ x ∈ m.ms, OkMt x
  okv : (0 ≤ m.v ∧ m.v < 18446744073709551616) ∧ (0 ≤ m.s ∧ m.s < 18446744073709551616)
  lp : m.ps.length ≤ 1000000
  lm : m.ms.length ≤ 1000000
  cp : m.ps.length ≤ cp
  cm : m.ms.length ≤ cm
  hp : Kd.C k26 w0 Ap m.ps.length m.ps
set_option maxHeartbeats 8000000 in
set_option maxRecDepth 100000 in
theorem fields_calls (w0 w : World) (L : List Asn) (g gm : Nat) (b0 : List Int) (m : Msg) (Ap : Option Addr) (cp : Nat) (Am : Option Addr) (cm : Nat) (hI : FIn w0 L m Ap cp Am cm) (hb : b0.length ≤ 1000)
    (h : Sat w0 w (Wt g b0 :: Blk gm (m.cs (.slice Ap m.ps.length cp) (.slice Am m.ms.length cm)) 31 :: Row k49 49 (.slice Am m.ms.length cm) m.ms :: L)) :
    Calls Try.prog 17 #[.iface 51 (.pointer (some ⟨g, 0, none⟩)), .pointer (some ⟨gm, 0, none⟩)] w (WOut (fieldsE m b0) w0 L g) := by
  have H0 := Aside0.mk h
  have HI := Aside0.mk hI
  have hn := nil_w_number ⟨g, 0, none⟩
  have hm := met_w_number ⟨g, 0, none⟩
  have hn1 := nil_w_name ⟨g, 0, none⟩
  have hm1 := met_w_name ⟨g, 0, none⟩
  clear h hI
  go_enter Try.func17, Try.ntmps17
  go_upto_region 0 with fail
  go_region_with (first | (go_at_call 61; go_loud ((with_reducible refine WOut.calls (number_calls w0 _ _ g b0 _ m.seq 1099511627776 (by omega) (by omega) (fun w1 b1 h => (h.nth 1 rfl).cell 1 rfl) H0.out.drew) ?_ ?_); exact fun x w3 hr hs => ⟨rfl, WOut.bad (by simp only [fieldsE, hr, Except.bind]) rfl hs.tail.tail⟩; intro b1 w1 hr1 hs; have hl1 := numE_len hr1 (by decide); have HR1 := Aside0.mk hr1; have H1 := Aside0.mk hs; clear hs hr1)))
  go_upto_region 1 with fail
  go_region_with (first | (go_at_call 61; go_loud ((with_reducible refine WOut.calls (number_calls w0 _ _ g b1 _ m.epoch 1099511627776 (by omega) (by omega) (fun w1 b1 h => (h.nth 1 rfl).cell 2 rfl) H1.out.drew) ?_ ?_); exact fun x w3 hr hs => ⟨rfl, WOut.bad (by simp only [fieldsE, HR1.out, hr, Except.bind]) rfl hs.tail.tail⟩; intro b2 w2 hr2 hs; have hl2 := numE_len hr2 (by decide); have HR2 := Aside0.mk hr2; have H2 := Aside0.mk hs; clear hs hr2)))
  have HW := Aside0.mk (show fieldsE m b0 = kindE m b2 by simp only [fieldsE, HR1.out, HR2.out, Except.bind])
  have hl2 : b2.length ≤ 2000 := by omega
  clear H0 H1 HR1 HR2 hl1 hb

  by_cases hk : m.kind = 1
  · have x0 : w2.cell? ⟨gm, 0, none⟩ = some (.int .i64 1) := ((H2.out.nth 1 rfl).cell 0 (v := .int .i64 m.kind) rfl).trans (by rw [hk])
    have HK : Aside0 (∀ b, kindE m b = _) := ⟨fun b => (show kindE m b = (numE m.space 255 b).bind fun c => (nameE m.id c).bind (pointE ⟨m.t, m.v, m.s⟩) by simp only [kindE, hk]; rfl)⟩
    go_upto_region 11 with fail
    go_region_with (first | (go_at_call 61; go_loud ((with_reducible refine WOut.calls (number_calls w0 _ _ g b2 _ m.space 255 (by omega) (by omega) (fun w1 b1 h => (h.nth 1 rfl).cell 3 rfl) H2.out.drew) ?_ ?_); exact fun x w3 hr hs => ⟨rfl, WOut.bad (by rw [HW.out, HK.out]; simp only [hr, Except.bind]) rfl hs.tail.tail⟩; intro b3 w3 hr3 hs; have hl3 := numE_len hr3 (by decide); have HR3 := Aside0.mk hr3; have H3 := Aside0.mk hs; clear hs hr3)))
    go_upto_region 12 with fail
    go_region_with (first | (go_at_call 60; go_loud ((with_reducible refine WOut.calls (name_calls w0 _ _ g b3 _ m.id (by omega) (fun w1 b1 h => (h.nth 1 rfl).cell 5 rfl) H3.out.drew) ?_ ?_); exact fun x w3 hr hs => ⟨rfl, WOut.bad (by rw [HW.out, HK.out]; simp only [HR3.out, hr, Except.bind]) rfl hs.tail.tail⟩; intro b4 w4 hr4 hs; have hl4 := nameE_len hr4; have HR4 := Aside0.mk hr4; have H4 := Aside0.mk hs; clear hs hr4)))
    have x4 : w4.cell? ⟨gm, 0, none⟩ = some (.int .i64 1) := ((H4.out.nth 1 rfl).cell 0 (v := .int .i64 m.kind) rfl).trans (by rw [hk])
    have HOK : Aside0 (OkPt ⟨m.t, m.v, m.s⟩) := ⟨HI.out.okv⟩
    go_wp2_with (first | (go_at_call 24; go_loud ((with_reducible refine WOut.calls (point_calls w0 _ _ g b4 ⟨gm, 9, none⟩ ⟨m.t, m.v, m.s⟩ HOK.out (by omega) (fun w1 b1 h => (h.nth 1 rfl).cell 9 rfl) (fun w1 b1 h => (h.nth 1 rfl).cell 10 rfl) (fun w1 b1 h => (h.nth 1 rfl).cell 11 rfl) H4.out) ?_ ?_); exact fun x w3 hr hs => ⟨rfl, WOut.bad (by rw [HW.out, HK.out]; simp only [HR3.out, HR4.out, hr, Except.bind]) rfl hs.tail.tail⟩; intro b5 w5 hr5 hs; have HR5 := Aside0.mk hr5; have H5 := Aside0.mk hs; clear hs hr5)))
    go_end0
    exact WOut.good (by rw [HW.out, HK.out]; simp only [HR3.out, HR4.out, HR5.out, Except.bind]) rfl H5.out.tail2
  by_cases hk : m.kind = 3
  · have x0 : w2.cell? ⟨gm, 0, none⟩ = some (.int .i64 3) := ((H2.out.nth 1 rfl).cell 0 (v := .int .i64 m.kind) rfl).trans (by rw [hk])
    have HK : Aside0 (∀ b, kindE m b = _) := ⟨fun b => (show kindE m b = (numE m.space 255 b).bind fun c => (nameE m.id c).bind (spanE m.lo m.hi) by simp only [kindE, hk]; rfl)⟩
    go_upto_region 11 with fail
    go_region_with (first | (go_at_call 61; go_loud ((with_reducible refine WOut.calls (number_calls w0 _ _ g b2 _ m.space 255 (by omega) (by omega) (fun w1 b1 h => (h.nth 1 rfl).cell 3 rfl) H2.out.drew) ?_ ?_); exact fun x w3 hr hs => ⟨rfl, WOut.bad (by rw [HW.out, HK.out]; simp only [hr, Except.bind]) rfl hs.tail.tail⟩; intro b3 w3 hr3 hs; have hl3 := numE_len hr3 (by decide); have HR3 := Aside0.mk hr3; have H3 := Aside0.mk hs; clear hs hr3)))
    go_upto_region 12 with fail
    go_region_with (first | (go_at_call 60; go_loud ((with_reducible refine WOut.calls (name_calls w0 _ _ g b3 _ m.id (by omega) (fun w1 b1 h => (h.nth 1 rfl).cell 5 rfl) H3.out.drew) ?_ ?_); exact fun x w3 hr hs => ⟨rfl, WOut.bad (by rw [HW.out, HK.out]; simp only [HR3.out, hr, Except.bind]) rfl hs.tail.tail⟩; intro b4 w4 hr4 hs; have hl4 := nameE_len hr4; have HR4 := Aside0.mk hr4; have H4 := Aside0.mk hs; clear hs hr4)))
    have x4 : w4.cell? ⟨gm, 0, none⟩ = some (.int .i64 3) := ((H4.out.nth 1 rfl).cell 0 (v := .int .i64 m.kind) rfl).trans (by rw [hk])
    go_wp2_with (first | (go_at_call 25; go_loud ((with_reducible refine WOut.calls (span_calls w0 _ _ g b4 ⟨gm, 7, none⟩ m.lo m.hi (by omega) (fun w1 b1 h => (h.nth 1 rfl).cell 7 rfl) (fun w1 b1 h => (h.nth 1 rfl).cell 8 rfl) H4.out) ?_ ?_); exact fun x w3 hr hs => ⟨rfl, WOut.bad (by rw [HW.out, HK.out]; simp only [HR3.out, HR4.out, hr, Except.bind]) rfl hs.tail.tail⟩; intro b5 w5 hr5 hs; have HR5 := Aside0.mk hr5; have H5 := Aside0.mk hs; clear hs hr5)))
    go_end0
    exact WOut.good (by rw [HW.out, HK.out]; simp only [HR3.out, HR4.out, HR5.out, Except.bind]) rfl H5.out.tail2
  by_cases hk : m.kind = 5
  · have x0 : w2.cell? ⟨gm, 0, none⟩ = some (.int .i64 5) := ((H2.out.nth 1 rfl).cell 0 (v := .int .i64 m.kind) rfl).trans (by rw [hk])
    have HK : Aside0 (∀ b, kindE m b = _) := ⟨fun b => (show kindE m b = (numE m.space 255 b).bind fun c => (numE m.shard 255 c).bind fun d => (spanE m.lo m.hi d).bind fun e => (numE m.block 1099511627776 e).bind (nameE m.id) by simp only [kindE, hk]; rfl)⟩
    go_upto_region 16 with fail
    go_region_with (first | (go_at_call 61; go_loud ((with_reducible refine WOut.calls (number_calls w0 _ _ g b2 _ m.space 255 (by omega) (by omega) (fun w1 b1 h => (h.nth 1 rfl).cell 3 rfl) H2.out.drew) ?_ ?_); exact fun x w3 hr hs => ⟨rfl, WOut.bad (by rw [HW.out, HK.out]; simp only [hr, Except.bind]) rfl hs.tail.tail⟩; intro b3 w3 hr3 hs; have hl3 := numE_len hr3 (by decide); have HR3 := Aside0.mk hr3; have H3 := Aside0.mk hs; clear hs hr3)))
    go_upto_region 17 with fail
    go_region_with (first | (go_at_call 61; go_loud ((with_reducible refine WOut.calls (number_calls w0 _ _ g b3 _ m.shard 255 (by omega) (by omega) (fun w1 b1 h => (h.nth 1 rfl).cell 4 rfl) H3.out.drew) ?_ ?_); exact fun x w3 hr hs => ⟨rfl, WOut.bad (by rw [HW.out, HK.out]; simp only [HR3.out, hr, Except.bind]) rfl hs.tail.tail⟩; intro b4 w4 hr4 hs; have hl4 := numE_len hr4 (by decide); have HR4 := Aside0.mk hr4; have H4 := Aside0.mk hs; clear hs hr4)))
    have x4 : w4.cell? ⟨gm, 0, none⟩ = some (.int .i64 5) := ((H4.out.nth 1 rfl).cell 0 (v := .int .i64 m.kind) rfl).trans (by rw [hk])
    go_upto_region 20 with (first | (go_at_call 25; go_loud ((with_reducible refine WOut.calls (span_calls w0 _ _ g b4 ⟨gm, 7, none⟩ m.lo m.hi (by omega) (fun w1 b1 h => (h.nth 1 rfl).cell 7 rfl) (fun w1 b1 h => (h.nth 1 rfl).cell 8 rfl) H4.out) ?_ ?_); exact fun x w3 hr hs => ⟨rfl, WOut.bad (by rw [HW.out, HK.out]; simp only [HR3.out, HR4.out, hr, Except.bind]) rfl hs.tail.tail⟩; intro b5 w5 hr5 hs; have HR5 := Aside0.mk hr5; have H5 := Aside0.mk hs; clear hs hr5)))
    have hl5 := spanE_len HR5.out
    go_upto_region 20 with fail
    go_region_with (first | (go_at_call 61; go_loud ((with_reducible refine WOut.calls (number_calls w0 _ _ g b5 _ m.block 1099511627776 (by omega) (by omega) (fun w1 b1 h => (h.nth 1 rfl).cell 6 rfl) H5.out.drew) ?_ ?_); exact fun x w3 hr hs => ⟨rfl, WOut.bad (by rw [HW.out, HK.out]; simp only [HR3.out, HR4.out, HR5.out, hr, Except.bind]) rfl hs.tail.tail⟩; intro b6 w6 hr6 hs; have hl6 := numE_len hr6 (by decide); have HR6 := Aside0.mk hr6; have H6 := Aside0.mk hs; clear hs hr6)))
    go_upto_region 21 with fail
    go_region_with (first | (go_at_call 60; go_loud ((with_reducible refine WOut.calls (name_calls w0 _ _ g b6 _ m.id (by omega) (fun w1 b1 h => (h.nth 1 rfl).cell 5 rfl) H6.out.drew) ?_ ?_); exact fun x w3 hr hs => ⟨rfl, WOut.bad (by rw [HW.out, HK.out]; simp only [HR3.out, HR4.out, HR5.out, HR6.out, hr, Except.bind]) rfl hs.tail.tail⟩; intro b7 w7 hr7 hs; have hl7 := nameE_len hr7; have HR7 := Aside0.mk hr7; have H7 := Aside0.mk hs; clear hs hr7)))
    go_wp2
    go_end0
    exact WOut.good (by rw [HW.out, HK.out]; simp only [HR3.out, HR4.out, HR5.out, HR6.out, HR7.out, Except.bind]) rfl H7.out.tail2
  by_cases hk : m.kind = 7
  · have x0 : w2.cell? ⟨gm, 0, none⟩ = some (.int .i64 7) := ((H2.out.nth 1 rfl).cell 0 (v := .int .i64 m.kind) rfl).trans (by rw [hk])
    have HK : Aside0 (∀ b, kindE m b = _) := ⟨fun b => (show kindE m b = (numE m.space 255 b).bind fun c => (numE m.shard 255 c).bind fun d => (numE m.block 1099511627776 d).bind (nameE m.id) by simp only [kindE, hk]; rfl)⟩
    go_upto_region 16 with fail
    go_region_with (first | (go_at_call 61; go_loud ((with_reducible refine WOut.calls (number_calls w0 _ _ g b2 _ m.space 255 (by omega) (by omega) (fun w1 b1 h => (h.nth 1 rfl).cell 3 rfl) H2.out.drew) ?_ ?_); exact fun x w3 hr hs => ⟨rfl, WOut.bad (by rw [HW.out, HK.out]; simp only [hr, Except.bind]) rfl hs.tail.tail⟩; intro b3 w3 hr3 hs; have hl3 := numE_len hr3 (by decide); have HR3 := Aside0.mk hr3; have H3 := Aside0.mk hs; clear hs hr3)))
    go_upto_region 17 with fail
    go_region_with (first | (go_at_call 61; go_loud ((with_reducible refine WOut.calls (number_calls w0 _ _ g b3 _ m.shard 255 (by omega) (by omega) (fun w1 b1 h => (h.nth 1 rfl).cell 4 rfl) H3.out.drew) ?_ ?_); exact fun x w3 hr hs => ⟨rfl, WOut.bad (by rw [HW.out, HK.out]; simp only [HR3.out, hr, Except.bind]) rfl hs.tail.tail⟩; intro b4 w4 hr4 hs; have hl4 := numE_len hr4 (by decide); have HR4 := Aside0.mk hr4; have H4 := Aside0.mk hs; clear hs hr4)))
    have x4 : w4.cell? ⟨gm, 0, none⟩ = some (.int .i64 7) := ((H4.out.nth 1 rfl).cell 0 (v := .int .i64 m.kind) rfl).trans (by rw [hk])
    go_upto_region 20 with fail
    go_region_with (first | (go_at_call 61; go_loud ((with_reducible refine WOut.calls (number_calls w0 _ _ g b4 _ m.block 1099511627776 (by omega) (by omega) (fun w1 b1 h => (h.nth 1 rfl).cell 6 rfl) H4.out.drew) ?_ ?_); exact fun x w3 hr hs => ⟨rfl, WOut.bad (by rw [HW.out, HK.out]; simp only [HR3.out, HR4.out, hr, Except.bind]) rfl hs.tail.tail⟩; intro b5 w5 hr5 hs; have hl5 := numE_len hr5 (by decide); have HR5 := Aside0.mk hr5; have H5 := Aside0.mk hs; clear hs hr5)))
    go_upto_region 21 with fail
    go_region_with (first | (go_at_call 60; go_loud ((with_reducible refine WOut.calls (name_calls w0 _ _ g b5 _ m.id (by omega) (fun w1 b1 h => (h.nth 1 rfl).cell 5 rfl) H5.out.drew) ?_ ?_); exact fun x w3 hr hs => ⟨rfl, WOut.bad (by rw [HW.out, HK.out]; simp only [HR3.out, HR4.out, HR5.out, hr, Except.bind]) rfl hs.tail.tail⟩; intro b6 w6 hr6 hs; have hl6 := nameE_len hr6; have HR6 := Aside0.mk hr6; have H6 := Aside0.mk hs; clear hs hr6)))
    go_wp2
    go_end0
    exact WOut.good (by rw [HW.out, HK.out]; simp only [HR3.out, HR4.out, HR5.out, HR6.out, Except.bind]) rfl H6.out.tail2
  by_cases hk : m.kind = 6
  · have x0 : w2.cell? ⟨gm, 0, none⟩ = some (.int .i64 6) := ((H2.out.nth 1 rfl).cell 0 (v := .int .i64 m.kind) rfl).trans (by rw [hk])
    have HK : Aside0 (∀ b, kindE m b = _) := ⟨fun b => (show kindE m b = (numE m.err 255 b).bind fun c => (numE (if m.more = true then 1 else 0) 1 c).bind (metasE m.ms) by simp only [kindE, hk]; rfl)⟩
    have x1 := (H2.out.nth 1 rfl).cell 0 (v := .int .i64 m.kind) rfl
    go_upto_region 23 with (first | (go_at_call 26; go_loud ((with_reducible refine WOut.calls (failure_calls w0 _ _ g gm b2 m (.slice Ap m.ps.length cp) (.slice Am m.ms.length cm) (by omega) H2.out) ?_ ?_); exact fun x w3 hr hs => ⟨rfl, WOut.bad (by rw [HW.out, HK.out]; simp only [hr, Except.bind]) rfl hs.tail.tail⟩; intro b3 w3 hr3 hs; have hl3 := numE_len hr3 (by decide); have HR3 := Aside0.mk hr3; have H3 := Aside0.mk hs; clear hs hr3)))
    clear H2 x0 x1
    have HA : Aside0 (Sat w0 (w3.alloc (.cells #[.int .i64 0] 3)) (Wt g b3 :: Blk w3.heap.size #[.int .i64 0] 3 :: Blk gm (m.cs (.slice Ap m.ps.length cp) (.slice Am m.ms.length cm)) 31 :: Row k49 49 (.slice Am m.ms.length cm) m.ms :: L)) := Aside0.mk ((H3.out.newBlk #[.int .i64 0] 3).nth 1 rfl)
    have hl3' : b3.length ≤ 3000 := by omega
    go_upto_region 24 with fail
    generalize w3.alloc (.cells #[.int .i64 0] 3) = w4 at HA ⊢
    generalize w3.heap.size = gl at HA ⊢
    clear H3
    have HMC : Aside0 (∀ (W : World) (b4 : List Int), b4.length ≤ 4000 → Sat w0 W (Wt g b4 :: Blk gm (m.cs (.slice Ap m.ps.length cp) (.slice Am m.ms.length cm)) 31 :: Row k49 49 (.slice Am m.ms.length cm) m.ms :: L) → Calls Try.prog 27 #[.iface 51 (.pointer (some ⟨g, 0, none⟩)), .pointer (some ⟨gm, 15, none⟩)] W (WOut (metasE m.ms b4) w0 _ g)) := ⟨fun W b4 hb4 h4 =>
      metas_calls w0 W _ g b4 ⟨gm, 15, none⟩ Am cm m.ms HI.out.okm HI.out.lm HI.out.cm (by omega) (fun w1 b1 h => (h.nth 1 rfl).cell 15 rfl) (fun w1 b1 h => (h.nth 2 rfl).rowC)
        (fun w1 b1 h ad e j => by subst e; exact Sat.rowFree (h.nth 2 rfl) j) h4⟩
    by_cases hmo : m.more = true
    · have HMO := Aside0.mk hmo
      have xm := (HA.out.nth 2 rfl).cell 13 (v := .bool true) (by simp [Msg.cs, hmo])
      have f0 := (HA.out.nth 1 rfl).free 0
      have c0 := (HA.out.nth 1 rfl).cell 0 (v := .int .i64 0) rfl
      have HB : Aside0 (Sat w0 _ (Wt g b3 :: Blk gl #[.int .i64 1] 3 :: _)) := Aside0.mk (((HA.out.nth 1 rfl).setBlk 0 (.int .i64 1)).nth 1 rfl)
      have HK2 : Aside0 (∀ b, kindE m b = (numE m.err 255 b).bind fun c => (numE 1 1 c).bind (metasE m.ms)) := ⟨fun b => by rw [HK.out, hmo]; rfl⟩
      clear hmo HA HK
      go_upto_region 26 with fail
      generalize w4.setCell ⟨gl, 0, none⟩ (.int .i64 1) = w5 at HB ⊢
      go_upto_region 27 with (first | (go_at_call 61; go_loud ((with_reducible refine WOut.calls (number_calls w0 _ _ g b3 ⟨gl, 0, none⟩ 1 1 (by omega) (by omega) (fun w1 b1 h1 => (h1.nth 1 rfl).cell 0 rfl) HB.out) ?_ ?_); exact fun x w3 hr hs => ⟨rfl, WOut.bad (by rw [HW.out, HK2.out]; simp only [HR3.out, hr, Except.bind]) rfl hs.tail.tail.tail⟩; intro b4 w6 hr4 hs; have hl4 := numE_len hr4 (by decide); have HR4 := Aside0.mk hr4; have H4 := Aside0.mk hs; clear hs hr4)))
      have y0 := (H4.out.nth 1 rfl).cell 0 (v := .int .i64 1) rfl
      have HC : Aside0 (Sat w0 w6 (Wt g b4 :: Blk gm (m.cs (.slice Ap m.ps.length cp) (.slice Am m.ms.length cm)) 31 :: Row k49 49 (.slice Am m.ms.length cm) m.ms :: L)) := ⟨(H4.out.nth 1 rfl).tail⟩
      have ym : w6.cell? ⟨gm, 13, none⟩ = some (.bool true) := ((HC.out.nth 1 rfl).cell 13 (v := .bool m.more) rfl).trans (by rw [HMO.out])
      have yf := (HC.out.nth 1 rfl).free 13
      have ys := setCell_same ym
      clear H4 HB
      go_wp2_with (first | (go_at_call 27; go_loud ((with_reducible refine WOut.calls (HMC.out _ b4 (by omega) HC.out) ?_ ?_); exact fun x w3 hr hs => ⟨rfl, WOut.bad (by rw [HW.out, HK2.out]; simp only [HR3.out, HR4.out, hr, Except.bind]) rfl hs.tail.tail⟩; intro b5 w7 hr5 hs; have HR5 := Aside0.mk hr5; have H5 := Aside0.mk hs; clear hs hr5)))
      go_end0
      exact WOut.good (by rw [HW.out, HK2.out]; simp only [HR3.out, HR4.out, HR5.out, Except.bind]) rfl H5.out.tail2
    · replace hmo : m.more = false := by simpa using hmo
      have HMO := Aside0.mk hmo
      have xm := (HA.out.nth 2 rfl).cell 13 (v := .bool false) (by simp [Msg.cs, hmo])
      have HB : Aside0 (Sat w0 w4 (Wt g b3 :: Blk gl #[.int .i64 0] 3 :: _)) := HA
      have HK2 : Aside0 (∀ b, kindE m b = (numE m.err 255 b).bind fun c => (numE 0 1 c).bind (metasE m.ms)) := ⟨fun b => by rw [HK.out, hmo]; rfl⟩
      clear hmo HA HK
      go_upto_region 26 with fail
      go_upto_region 27 with (first | (go_at_call 61; go_loud ((with_reducible refine WOut.calls (number_calls w0 _ _ g b3 ⟨gl, 0, none⟩ 0 1 (by omega) (by omega) (fun w1 b1 h1 => (h1.nth 1 rfl).cell 0 rfl) HB.out) ?_ ?_); exact fun x w3 hr hs => ⟨rfl, WOut.bad (by rw [HW.out, HK2.out]; simp only [HR3.out, hr, Except.bind]) rfl hs.tail.tail.tail⟩; intro b4 w6 hr4 hs; have hl4 := numE_len hr4 (by decide); have HR4 := Aside0.mk hr4; have H4 := Aside0.mk hs; clear hs hr4)))
      have y0 := (H4.out.nth 1 rfl).cell 0 (v := .int .i64 0) rfl
      have HC : Aside0 (Sat w0 w6 (Wt g b4 :: Blk gm (m.cs (.slice Ap m.ps.length cp) (.slice Am m.ms.length cm)) 31 :: Row k49 49 (.slice Am m.ms.length cm) m.ms :: L)) := ⟨(H4.out.nth 1 rfl).tail⟩
      have ym : w6.cell? ⟨gm, 13, none⟩ = some (.bool false) := ((HC.out.nth 1 rfl).cell 13 (v := .bool m.more) rfl).trans (by rw [HMO.out])
      have yf := (HC.out.nth 1 rfl).free 13
      have ys := setCell_same ym
      clear H4 HB
      go_wp2_with (first | (go_at_call 27; go_loud ((with_reducible refine WOut.calls (HMC.out _ b4 (by omega) HC.out) ?_ ?_); exact fun x w3 hr hs => ⟨rfl, WOut.bad (by rw [HW.out, HK2.out]; simp only [HR3.out, HR4.out, hr, Except.bind]) rfl hs.tail.tail⟩; intro b5 w7 hr5 hs; have HR5 := Aside0.mk hr5; have H5 := Aside0.mk hs; clear hs hr5)))
      go_end0
      exact WOut.good (by rw [HW.out, HK2.out]; simp only [HR3.out, HR4.out, HR5.out, Except.bind]) rfl H5.out.tail2
  by_cases hk : m.kind = 2
  · have x0 : w2.cell? ⟨gm, 0, none⟩ = some (.int .i64 2) := ((H2.out.nth 1 rfl).cell 0 (v := .int .i64 m.kind) rfl).trans (by rw [hk])
    have HK : Aside0 (∀ b, kindE m b = _) := ⟨fun b => (show kindE m b = numE m.err 255 b by simp only [kindE, hk]; rfl)⟩
    go_wp2_with (first | (go_at_call 26; go_loud ((with_reducible refine WOut.calls (failure_calls w0 _ _ g gm b2 m (.slice Ap m.ps.length cp) (.slice Am m.ms.length cm) (by omega) H2.out) ?_ ?_); exact fun x w3 hr hs => ⟨rfl, WOut.bad (by rw [HW.out, HK.out]; simp only [hr, Except.bind]) rfl hs.tail.tail⟩; intro b3 w3 hr3 hs; have HR3 := Aside0.mk hr3; have H3 := Aside0.mk hs; clear hs hr3)))
    go_end0
    exact WOut.good (by rw [HW.out, HK.out]; simp only [HR3.out, Except.bind]) rfl H3.out.tail2
  by_cases hk : m.kind = 8
  · have x0 : w2.cell? ⟨gm, 0, none⟩ = some (.int .i64 8) := ((H2.out.nth 1 rfl).cell 0 (v := .int .i64 m.kind) rfl).trans (by rw [hk])
    have HK : Aside0 (∀ b, kindE m b = _) := ⟨fun b => (show kindE m b = (numE m.err 255 b).bind (pointsE m.ps) by simp only [kindE, hk]; rfl)⟩
    go_wp2_with (first | (go_at_call 26; go_loud ((with_reducible refine WOut.calls (failure_calls w0 _ _ g gm b2 m (.slice Ap m.ps.length cp) (.slice Am m.ms.length cm) (by omega) H2.out) ?_ ?_); exact fun x w3 hr hs => ⟨rfl, WOut.bad (by rw [HW.out, HK.out]; simp only [hr, Except.bind]) rfl hs.tail.tail⟩; intro b3 w3 hr3 hs; have hl3 := numE_len hr3 (by decide); have HR3 := Aside0.mk hr3; have H3 := Aside0.mk hs; clear hs hr3)) | (go_at_call 28; go_loud ((with_reducible refine WOut.calls (points_calls w0 _ _ g b3 ⟨gm, 14, none⟩ Ap cp m.ps HI.out.okp HI.out.lp HI.out.cp (by omega) (fun w1 b1 h => (h.nth 1 rfl).cell 14 rfl) (fun w1 b1 h => ldP HI.out.hp h) H3.out) ?_ ?_); exact fun x w3 hr hs => ⟨rfl, WOut.bad (by rw [HW.out, HK.out]; simp only [HR3.out, hr, Except.bind]) rfl hs.tail.tail⟩; intro b4 w4 hr4 hs; have HR4 := Aside0.mk hr4; have H4 := Aside0.mk hs; clear hs hr4)))
    go_end0
    exact WOut.good (by rw [HW.out, HK.out]; simp only [HR3.out, HR4.out, Except.bind]) rfl H4.out.tail2
  by_cases hk : m.kind = 4
  · have x0 : w2.cell? ⟨gm, 0, none⟩ = some (.int .i64 4) := ((H2.out.nth 1 rfl).cell 0 (v := .int .i64 m.kind) rfl).trans (by rw [hk])
    have HK : Aside0 (∀ b, kindE m b = _) := ⟨fun b => (show kindE m b = (numE m.err 255 b).bind (pointsE m.ps) by simp only [kindE, hk]; rfl)⟩
    go_wp2_with (first | (go_at_call 26; go_loud ((with_reducible refine WOut.calls (failure_calls w0 _ _ g gm b2 m (.slice Ap m.ps.length cp) (.slice Am m.ms.length cm) (by omega) H2.out) ?_ ?_); exact fun x w3 hr hs => ⟨rfl, WOut.bad (by rw [HW.out, HK.out]; simp only [hr, Except.bind]) rfl hs.tail.tail⟩; intro b3 w3 hr3 hs; have hl3 := numE_len hr3 (by decide); have HR3 := Aside0.mk hr3; have H3 := Aside0.mk hs; clear hs hr3)) | (go_at_call 28; go_loud ((with_reducible refine WOut.calls (points_calls w0 _ _ g b3 ⟨gm, 14, none⟩ Ap cp m.ps HI.out.okp HI.out.lp HI.out.cp (by omega) (fun w1 b1 h => (h.nth 1 rfl).cell 14 rfl) (fun w1 b1 h => ldP HI.out.hp h) H3.out) ?_ ?_); exact fun x w3 hr hs => ⟨rfl, WOut.bad (by rw [HW.out, HK.out]; simp only [HR3.out, hr, Except.bind]) rfl hs.tail.tail⟩; intro b4 w4 hr4 hs; have HR4 := Aside0.mk hr4; have H4 := Aside0.mk hs; clear hs hr4)))
    go_end0
    exact WOut.good (by rw [HW.out, HK.out]; simp only [HR3.out, HR4.out, Except.bind]) rfl H4.out.tail2
  have h1 : m.kind ≠ 1 := by assumption
  have HKB : Aside0 (∀ b, kindE m b = .error 1) := ⟨fun b => by unfold kindE; repeat (first | rw [if_neg (by omega)] | rfl)⟩
  have x0 := (H2.out.nth 1 rfl).cell 0 (v := .int .i64 m.kind) rfl
  have d1 : (m.kind == 1) = false := by rw [beq_eq_false_iff_ne]; assumption
  have d2 : (m.kind == 2) = false := by rw [beq_eq_false_iff_ne]; assumption
  have d3 : (m.kind == 3) = false := by rw [beq_eq_false_iff_ne]; assumption
  have d4 : (m.kind == 4) = false := by rw [beq_eq_false_iff_ne]; assumption
  have d5 : (m.kind == 5) = false := by rw [beq_eq_false_iff_ne]; assumption
  have d6 : (m.kind == 6) = false := by rw [beq_eq_false_iff_ne]; assumption
  have d7 : (m.kind == 7) = false := by rw [beq_eq_false_iff_ne]; assumption
  have d8 : (m.kind == 8) = false := by rw [beq_eq_false_iff_ne]; assumption
  go_wp2
  exact ⟨rfl, WOut.bad (by rw [HW.out, HKB.out]) rfl H2.out.tail.tail.tail⟩
end Go.Proofs.Ytpjljhiohimgcaa.WwW
namespace Go.Proofs.Ytpjljhiohimgcaa.WwW
open Go.RowKit Go.Proofs.YtpjljhiohimgcaaW.PrintWords Go.Proofs.YtpjljhiohimgcaaW.PrintLast Go.Proofs.YtpjljhiohimgcaaW.PrintMore Go.Proofs.Ytpjljhiohimgcaa.QB Go.Proofs.Ytpjljhiohimgcaa.Sl Go.Proofs.Ytpjljhiohimgcaa.Uv Go.Proofs.Ytpjljhiohimgcaa.UvP Go.Proofs.Ytpjljhiohimgcaa.WpP
set_option linter.unusedVariables false
set_option linter.unusedSimpArgs false
theorem leaves_tmps {P : Program} {fn : Func} {t1 t2 : Array Value} {R : Ending → World → Prop} (ht : ∀ w, (results fn t1).run P w = (results fn t2).run P w) : ∀ (ds : List Deferred) (u : FrameMode) (w : World), Leaves P fn t1 R ds u w → Leaves P fn t2 R ds u w
  | [], .returning, w, h => by
    obtain ⟨v, h1, h2⟩ := h
    exact ⟨v, (ht w).symm.trans h1, h2⟩
  | [], .panicking _, _, h => h
  | [], .run, _, h => h
  | d :: ds, u, w, ⟨h0, fv, cap, f, args, h1, h2, h3⟩ => ⟨h0, fv, cap, f, args, h1, h2, h3.mono fun e u' w' h => by
    cases e with
    | returned v => exact leaves_tmps ht ds _ _ h
    | panicked c => exact leaves_tmps ht ds _ _ h
    | outgrown => exact h⟩
/-- A panic in a region of wire.Encode: what has been reckoned there is not asked for. -/
theorem panicPut {d : Option Tmp} {R : Ending → World → Prop} {c : List PanicEntry} {a : Act} {v : Value} {w : World} (hd : (d == some 2 || d == some 3) = false) (h : bodyPostD Try.prog Try.f9 R (.panic c) (a.put d v) w) : bodyPostD Try.prog Try.f9 R (.panic c) a w := by
  cases d with
  | none => exact h
  | some k =>
    have h2 : k ≠ 2 := fun e => by subst e; simp at hd
    have h3 : k ≠ 3 := fun e => by subst e; simp at hd
    refine leaves_tmps (t1 := (a.put (some k) v).tmps) (fun w => ?_) _ _ _ h
    have e2 : (a.put (some k) v).tmps[2]? = a.tmps[2]? := by simp [Act.put, Array.getElem?_setIfInBounds, h2]
    have e3 : (a.put (some k) v).tmps[3]? = a.tmps[3]? := by simp [Act.put, Array.getElem?_setIfInBounds, h3]
    simp [results, Try.results9, e2, e3]
theorem caught_calls {w0 : World} {L : List Asn} (x : Int) (w : World) (h : Sat w0 w L) :
    Calls Try.prog 16 #[.iface 71 (.agg #[.int .i64 x])] w fun e w' => e = .returned (.int .i64 x) ∧ Sat w0 w' L := by
  have hta : ∀ W : World, (Instr.typeAssert (.iface 71 (.agg #[.int .i64 x])) 20 71 true).run Try.prog W = .ok (.tuple #[.agg #[.int .i64 x], .bool true]) W := by
    intro W
    have hu := Try.underlying71
    simp [Instr.typeAssert, run_underlying hu, go_sem, Result.andThen]
  have h1 := h.newBlk #[.int .i64 x] 71
  have c1 := h1.cell 0 (v := .int .i64 x) rfl
  have H1 := Aside0.mk h1
  clear h h1
  go_enter Try.func16, Try.ntmps16
  set_option maxRecDepth 20000 in
  go_wp2
  go_ret
  exact ⟨rfl, H1.out.tail⟩
theorem catch_idle (p q : Addr) (w : World) :
    CallsD Try.prog 15 #[.pointer (some p), .pointer (some q)] .returning w fun e u' w' => e = .returned (.tuple #[]) ∧ u' = .returning ∧ w' = w := by
  refine callsD_of_wpS Try.func15 rfl fun c₀ cs hu => ?_
  apply wpS_seq
  apply wpS_region
  simp [wpOpsS, go_sem, recoverD, hu, Try.ntmps15, Exit.thenS]
  apply wpS_seq
  apply wpS_region
  simp [wpOpsS, go_sem, Exit.thenS]
  refine wpS_cond (t := false) (by simp [Act.eval, Array.replicate]) ?_
  simp only [Bool.false_eq_true, if_false]
  refine wpS_of_wp (wp_skip ?_)
  cases c₀
  simp_all [bodyPostS, results, Try.results15]
set_option maxHeartbeats 4000000 in
theorem catch_panicking {w0 : World} {L : List Asn} (g1 g2 : Nat) (v x : Value) (er : Int) (older : List PanicEntry) (w : World) (h : Sat w0 w (Blk g1 #[v] 33 :: Blk g2 #[x] 27 :: L)) :
    CallsD Try.prog 15 #[.pointer (some ⟨g1, 0, none⟩), .pointer (some ⟨g2, 0, none⟩)] (.panicking (wrongP er :: older)) w fun e u' w' => e = .returned (.tuple #[]) ∧ u' = .panicking ({ wrongP er with recovered := true } :: older) ∧ Sat w0 w' (Blk g1 #[.slice none 0 0] 33 :: Blk g2 #[.int .i64 er] 27 :: L) := by
  have HS := Aside0.mk h
  clear h
  refine callsD_of_wpS Try.func15 rfl fun c₀ cs hu => ?_
  apply wpS_seq
  apply wpS_region
  simp [wpOpsS, go_sem, recoverD, hu, wrongP, Try.ntmps15, Exit.thenS]
  apply wpS_seq
  apply wpS_region
  simp [wpOpsS, go_sem, Exit.thenS]
  refine wpS_cond (t := true) (by simp [Act.eval, Array.replicate]) ?_
  simp only [if_true]
  refine wpS_of_wp ?_
  set_option maxRecDepth 20000 in
  go_wp2_with (first | (go_at_call 16; go_loud ((with_reducible refine (caught_calls er _ HS.out).mono ?_); rintro e w1 ⟨rfl, hs⟩; have c1 := hs.cell 0 (v := v) rfl; have f1 := hs.free 0; have h1 := (hs.setBlk 0 (.slice none 0 0)).nth 1 rfl; have c2 := h1.cell 0 (v := x) rfl; have f2 := h1.free 0; have H1 := Aside0.mk ((h1.setBlk 0 (.int .i64 er)).nth 1 rfl); clear hs h1)))
  cases c₀
  simp_all [bodyPostS, results, Try.results15]
  all_goals exact H1.out
end Go.Proofs.Ytpjljhiohimgcaa.WwW
