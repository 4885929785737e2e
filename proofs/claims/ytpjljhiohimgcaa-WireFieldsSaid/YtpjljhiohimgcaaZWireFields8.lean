/- What the calls of wire's failure and points come to, by a writer.
   What the calls of wire's metas come to, by a writer. -/
import Derived.Test.YtpjljhiohimgcaaZWireFields7
import Derived.Deep.CutBlock
namespace Go.Proofs.Ytpjljhiohimgcaa.WwW
open Go.RowKit Go.Proofs.YtpjljhiohimgcaaW.PrintWords Go.Proofs.YtpjljhiohimgcaaW.PrintLast Go.Proofs.YtpjljhiohimgcaaW.PrintMore Go.Proofs.Ytpjljhiohimgcaa.QB Go.Proofs.Ytpjljhiohimgcaa.Sl Go.Proofs.Ytpjljhiohimgcaa.Uv Go.Proofs.Ytpjljhiohimgcaa.UvP Go.Proofs.Ytpjljhiohimgcaa.WpP
set_option linter.unusedVariables false
set_option linter.unusedSimpArgs false
set_option maxHeartbeats 2000000 in
set_option maxRecDepth 100000 in
theorem failure_calls (w0 w : World) (L : List Asn) (g gm : Nat) (b0 : List Int) (m : Msg) (vp vm : Value) (hb : b0.length ≤ 900000) (h : Sat w0 w (Wt g b0 :: Blk gm (m.cs vp vm) 31 :: L)) :
    Calls Try.prog 26 #[.iface 51 (.pointer (some ⟨g, 0, none⟩)), .pointer (some ⟨gm, 0, none⟩)] w (WOut (numE m.err 255 b0) w0 (Blk gm (m.cs vp vm) 31 :: L) g) := by
  have x0 := (h.nth 1 rfl).cell 12 (v := .int .i64 m.err) rfl
  have H0 : Aside0 (Sat w0 (w.alloc (.cells #[.int .i64 m.err] 3)) (Wt g b0 :: Blk w.heap.size #[.int .i64 m.err] 3 :: Blk gm (m.cs vp vm) 31 :: L)) := Aside0.mk ((h.newBlk #[.int .i64 m.err] 3).nth 1 rfl)
  have hn := nil_w_number ⟨g, 0, none⟩
  have hm := met_w_number ⟨g, 0, none⟩
  clear h
  go_enter Try.func26, Try.ntmps26
  go_upto_region 1 with fail
  generalize w.alloc (.cells #[.int .i64 m.err] 3) = w1 at H0 ⊢
  generalize w.heap.size = gl at H0 ⊢
  clear x0
  go_upto_region 2 with (first | (go_at_call 61; go_loud ((with_reducible refine WOut.calls (number_calls w0 _ _ g b0 ⟨gl, 0, none⟩ m.err 255 (by omega) (by omega) (fun w1 b1 h1 => (h1.nth 1 rfl).cell 0 rfl) H0.out) ?_ ?_); exact fun x w3 hr hs => ⟨rfl, WOut.bad hr rfl hs.tail⟩; intro b1 w2 hr1 hs; have HR1 := Aside0.mk hr1; have H1 := Aside0.mk hs; clear hs hr1)))
  have y0 := (H1.out.nth 1 rfl).cell 0 (v := .int .i64 m.err) rfl
  have y1 := (H1.out.nth 2 rfl).free 12
  have H2 := Aside0.mk ((H1.out.nth 2 rfl).setBlk 12 (.int .i64 m.err))
  have y2 := (H1.out.nth 2 rfl).cell 12 (v := .int .i64 m.err) rfl
  go_wp2
  go_end0
  refine WOut.good HR1.out rfl ?_
  have hz : Sat w0 _ (Blk gm (m.cs vp vm) 31 :: Wt g b1 :: Blk gl #[.int .i64 m.err] 3 :: L) := H2.out
  exact (hz.nth 2 rfl).tail.nth 1 rfl
theorem ptsE_drop {l : List Pt} {i : Nat} (hi : i < l.length) (b : List Int) : ptsE (l.drop i) b = (pointE l[i] b).bind (ptsE (l.drop (i + 1))) := by rw [List.drop_eq_getElem_cons hi, ptsE]
set_option maxHeartbeats 4000000 in
set_option maxRecDepth 100000 in
theorem points_calls (w0 w : World) (L : List Asn) (g : Nat) (b0 : List Int) (p : Addr) (A : Option Addr) (c : Nat) (l : List Pt) (hx : ∀ x ∈ l, OkPt x) (hl : l.length ≤ 1000000) (hc : l.length ≤ c) (hb : b0.length ≤ 100000)
    (hp : ∀ w1 b1, Sat w0 w1 (Wt g b1 :: L) → w1.cell? p = some (.slice A l.length c)) (hC : ∀ w1 b1, Sat w0 w1 (Wt g b1 :: L) → Kd.C k26 w1 A l.length l) (h : Sat w0 w (Wt g b0 :: L)) :
    Calls Try.prog 28 #[.iface 51 (.pointer (some ⟨g, 0, none⟩)), .pointer (some p)] w (WOut (pointsE l b0) w0 L g) := by
  have H0 := Aside0.mk h
  have HX := Aside0.mk hx
  have HP := Aside0.mk hp
  have HC := Aside0.mk hC
  have hn := nil_w_many ⟨g, 0, none⟩
  have hm := met_w_many ⟨g, 0, none⟩
  have x0 : w.drew.cell? p = some (.slice A l.length c) := hp _ _ h.drew
  clear h hp hx hC
  go_enter Try.func28, Try.ntmps28
  go_upto_region 0 with fail
  go_cut [4] (fun v4 wc => v4 = .int .i64 l.length ∧ ∃ b1, Aside0 (manyE l.length 512 b0 = .ok b1) ∧ Aside0 (Sat w0 wc (Wt g b1 :: L)))
  case first =>
    go_region_with (first | (go_at_call 59; go_loud ((with_reducible refine MOut.calls (many_calls w0 _ _ g b0 l.length 512 (by omega) (by omega) H0.out.drew) ?_ ?_); exact fun x w3 hr hs => ⟨rfl, WOut.bad (by simp only [pointsE, hr, Except.bind]) rfl hs⟩; intro b1 w1 hr1 hs; have HR1 := Aside0.mk hr1; have H1 := Aside0.mk hs; clear hs hr1)))
    all_goals (go_wp2_with fail; go_meet)
    all_goals exact ⟨rfl, b1, HR1, H1⟩
  case rest =>
    obtain ⟨rfl, b1, HR1, H1⟩ := hcut
    clear H0 x0
    obtain ⟨hl512, hb1⟩ := manyE_ok HR1.out
    have hbl : b1.length ≤ 100010 := by have := uv_length_le l.length 10 (by omega) (by omega); rw [hb1, List.length_append]; omega
    have HW := Aside0.mk (show pointsE l b0 = ptsE l b1 by simp only [pointsE, HR1.out, Except.bind])
    clear hb1 hn hm hb HR1
    go_wp2
    go_loopw [16] (fun v16 wr => ∃ (i : Nat) (b2 : List Int), i ≤ l.length ∧ v16 = .int .i64 i ∧ Aside0 (ptsE (l.drop i) b2 = ptsE l b1) ∧ Aside0 (b2.length ≤ b1.length + 22 * i) ∧ Aside0 (Sat w0 wr (Wt g b2 :: L))) (fun v16 _ => l.length - (intOf v16).toNat)
    case atStart => exact ⟨0, b1, by omega, rfl, ⟨rfl⟩, ⟨by omega⟩, H1⟩
    case round =>
      obtain ⟨i, b2, hi, rfl, HE, HLn, HR⟩ := hrel
      clear H1
      by_cases hlt : i < l.length
      · have d1 : decide ((i : Int) < (l.length : Int)) = true := decide_eq_true (by omega)
        have d1' : decide (i < l.length) = true := decide_eq_true hlt
        have d2 : ((i : Int) == (l.length : Int)) = false := by rw [beq_eq_false_iff_ne]; omega
        have d3 : (i == l.length) = false := by rw [beq_eq_false_iff_ne]; omega
        have e1 : IntKind.i64.wrap ((i : Int) + 1) = ((i + 1 : Nat) : Int) := by rw [IntKind.wrap_i64]; omega
        have x1 := HP.out _ _ HR.out
        obtain ⟨ad, rfl, _⟩ := at_T26 (HC.out _ _ HR.out) (i : Int) (by omega) (by omega)
        have HPA : Aside0 (∀ w1 b1, Sat w0 w1 (Wt g b1 :: L) → _) := ⟨fun w1 b1 h => ptAt (HC.out w1 b1 h) i hlt rfl⟩
        have HXI := Aside0.mk (HX.out l[i] (List.getElem_mem hlt))
        have HD := Aside0.mk (ptsE_drop hlt b2)
        have hl2 : b2.length ≤ 900000 := by have := HLn.out; omega
        have HLT := Aside0.mk hlt
        obtain ⟨xi, hxi⟩ : ∃ xi, l[i] = xi := ⟨_, rfl⟩
        rw [hxi] at HPA HXI HD
        have hi0 : (0 : Int) ≤ (i : Int) := by omega
        have hi1 : (i : Int) < (l.length : Int) := by omega
        clear hxi hi
        go_wp2_with (first | (go_at_call 24; go_loud ((with_reducible refine WOut.calls (point_calls w0 _ _ g b2 (ad.add (i * 3)) xi HXI.out (by omega) (fun w1 b1 h => (HPA.out w1 b1 h).1) (fun w1 b1 h => (HPA.out w1 b1 h).2.1) (fun w1 b1 h => (HPA.out w1 b1 h).2.2) HR.out) ?_ ?_); exact fun x w3 hr hs => ⟨rfl, WOut.bad (by rw [HW.out, ← HE.out, HD.out, hr]; rfl) rfl hs⟩; intro b3 w3 hr3 hs; have HR3 := Aside0.mk hr3; have H3 := Aside0.mk hs; clear hs hr3)))
        go_roundw
        case measure => have := HLT.out; simp only [intOf]; omega
        case rel =>
          refine ⟨i + 1, b3, by omega, by go_num, ⟨?_⟩, ⟨?_⟩, H3⟩
          · rw [← HE.out, HD.out, HR3.out]
            rfl
          · have := pointE_len HR3.out
            have := HLn.out
            omega
      · have d1 : decide ((i : Int) < (l.length : Int)) = false := decide_eq_false (by omega)
        have d1' : decide (i < l.length) = false := decide_eq_false hlt
        have HI := Aside0.mk (show i = l.length by omega)
        clear hlt hi
        go_wp2
        go_end0
        refine WOut.good ?_ rfl HR.out
        rw [HW.out, ← HE.out, HI.out, List.drop_length, ptsE]
end Go.Proofs.Ytpjljhiohimgcaa.WwW
namespace Go.Proofs.Ytpjljhiohimgcaa.WwW
open Go.RowKit Go.Proofs.YtpjljhiohimgcaaW.PrintWords Go.Proofs.YtpjljhiohimgcaaW.PrintLast Go.Proofs.YtpjljhiohimgcaaW.PrintMore Go.Proofs.Ytpjljhiohimgcaa.QB Go.Proofs.Ytpjljhiohimgcaa.Sl Go.Proofs.Ytpjljhiohimgcaa.Uv Go.Proofs.Ytpjljhiohimgcaa.UvP Go.Proofs.Ytpjljhiohimgcaa.WpP
set_option linter.unusedVariables false
set_option linter.unusedSimpArgs false
/-- What is stored where it stands already turns nothing. -/
theorem setCell_same {w : World} {a : Addr} {u : Value} (h : w.cell? a = some u) : w.setCell a u = w := by
  have e : (w.setCell a u).heap = w.heap := by
    unfold World.setCell
    apply Array.ext_getElem?
    intro k
    rw [Array.getElem?_modify]
    split
    · rename_i e
      subst e
      unfold World.cell? at h
      cases hk : w.heap[a.block]? with
      | none => rfl
      | some o =>
        rw [hk] at h
        cases o with
        | cells c t fr =>
          simp only at h
          split at h
          · cases h
          · rename_i hs
            simp only [Option.map_some, hs, Bool.false_eq_true, if_false]
            congr 2
            apply Array.ext_getElem?
            intro j
            rw [Array.getElem?_setIfInBounds]
            split
            · rename_i e
              subst e
              split
              · exact h.symm
              · rename_i hb
                rw [Array.getElem?_eq_none (by omega)] at h
                cases h
            · rfl
        | _ => rfl
    · rfl
  have e2 : w.setCell a u = { w with heap := (w.setCell a u).heap } := rfl
  rw [e2, e]
theorem mtsE_drop {l : List Mt} {i : Nat} (hi : i < l.length) (b : List Int) : mtsE (l.drop i) b = (metaE l[i] b).bind (mtsE (l.drop (i + 1))) := by rw [List.drop_eq_getElem_cons hi, mtsE]
set_option maxHeartbeats 4000000 in
set_option maxRecDepth 100000 in
theorem metas_calls (w0 w : World) (L : List Asn) (g : Nat) (b0 : List Int) (p : Addr) (A : Option Addr) (c : Nat) (l : List Mt) (hx : ∀ x ∈ l, OkMt x) (hl : l.length ≤ 1000000) (hc : l.length ≤ c) (hb : b0.length ≤ 100000)
    (hp : ∀ w1 b1, Sat w0 w1 (Wt g b1 :: L) → w1.cell? p = some (.slice A l.length c)) (hC : ∀ w1 b1, Sat w0 w1 (Wt g b1 :: L) → Kd.C k49 w1 A l.length l) (hF : ∀ w1 b1, Sat w0 w1 (Wt g b1 :: L) → ∀ ad, A = some ad → ∀ j, w1.frozen? ⟨ad.block, j, none⟩ = false) (h : Sat w0 w (Wt g b0 :: L)) :
    Calls Try.prog 27 #[.iface 51 (.pointer (some ⟨g, 0, none⟩)), .pointer (some p)] w (WOut (metasE l b0) w0 L g) := by
  have H0 := Aside0.mk h
  have HX := Aside0.mk hx
  have HP := Aside0.mk hp
  have HC := Aside0.mk hC
  have HF := Aside0.mk hF
  have hn := nil_w_many ⟨g, 0, none⟩
  have hm := met_w_many ⟨g, 0, none⟩
  have x0 : w.drew.cell? p = some (.slice A l.length c) := hp _ _ h.drew
  clear h hp hx hC hF
  go_enter Try.func27, Try.ntmps27
  go_upto_region 0 with fail
  go_cut [4] (fun v4 wc => v4 = .int .i64 l.length ∧ ∃ b1, Aside0 (manyE l.length 8 b0 = .ok b1) ∧ Aside0 (Sat w0 wc (Wt g b1 :: L)))
  case first =>
    go_region_with (first | (go_at_call 59; go_loud ((with_reducible refine MOut.calls (many_calls w0 _ _ g b0 l.length 8 (by omega) (by omega) H0.out.drew) ?_ ?_); exact fun x w3 hr hs => ⟨rfl, WOut.bad (by simp only [metasE, hr, Except.bind]) rfl hs⟩; intro b1 w1 hr1 hs; have HR1 := Aside0.mk hr1; have H1 := Aside0.mk hs; clear hs hr1)))
    all_goals (go_wp2_with fail; go_meet)
    all_goals exact ⟨rfl, b1, HR1, H1⟩
  case rest =>
    obtain ⟨rfl, b1, HR1, H1⟩ := hcut
    clear H0 x0
    obtain ⟨hl512, hb1⟩ := manyE_ok HR1.out
    have hbl : b1.length ≤ 100010 := by have := uv_length_le l.length 10 (by omega) (by omega); rw [hb1, List.length_append]; omega
    have HW := Aside0.mk (show metasE l b0 = mtsE l b1 by simp only [metasE, HR1.out, Except.bind])
    clear hb1 hn hm hb HR1
    have hn1 := nil_w_name ⟨g, 0, none⟩
    have hm1 := met_w_name ⟨g, 0, none⟩
    have hn2 := nil_w_number ⟨g, 0, none⟩
    have hm2 := met_w_number ⟨g, 0, none⟩
    have hn3 := nil_w_wide ⟨g, 0, none⟩
    have hm3 := met_w_wide ⟨g, 0, none⟩
    go_wp2
    go_loopw [18] (fun v18 wr => ∃ (i : Nat) (b2 : List Int), i ≤ l.length ∧ v18 = .int .i64 i ∧ Aside0 (mtsE (l.drop i) b2 = mtsE l b1) ∧ Aside0 (b2.length ≤ b1.length + 33 * i) ∧ Aside0 (Sat w0 wr (Wt g b2 :: L))) (fun v18 _ => l.length - (intOf v18).toNat)
    case atStart => exact ⟨0, b1, by omega, rfl, ⟨rfl⟩, ⟨by omega⟩, H1⟩
    case round =>
      obtain ⟨i, b2, hi, rfl, HE, HLn, HR⟩ := hrel
      clear H1
      by_cases hlt : i < l.length
      · have d1 : decide ((i : Int) < (l.length : Int)) = true := decide_eq_true (by omega)
        have d1' : decide (i < l.length) = true := decide_eq_true hlt
        have d2 : ((i : Int) == (l.length : Int)) = false := by rw [beq_eq_false_iff_ne]; omega
        have d3 : (i == l.length) = false := by rw [beq_eq_false_iff_ne]; omega
        have e1 : IntKind.i64.wrap ((i : Int) + 1) = ((i + 1 : Nat) : Int) := by rw [IntKind.wrap_i64]; omega
        have x1 := HP.out _ _ HR.out
        obtain ⟨ad, rfl, _⟩ := at_T49 (HC.out _ _ HR.out) (i : Int) (by omega) (by omega)
        have HPA : Aside0 (∀ w1 b1, Sat w0 w1 (Wt g b1 :: L) → _) := ⟨fun w1 b1 h => mtAt (HC.out w1 b1 h) i hlt rfl⟩
        have hxi2 := HX.out l[i] (List.getElem_mem hlt)
        have HD := Aside0.mk (mtsE_drop hlt b2)
        have hl2 : b2.length ≤ 890000 := by have := HLn.out; omega
        have HLT := Aside0.mk hlt
        obtain ⟨xi, hxi⟩ : ∃ xi, l[i] = xi := ⟨_, rfl⟩
        rw [hxi] at HPA hxi2 HD
        have hi0 : (0 : Int) ≤ (i : Int) := by omega
        have hi1 : (i : Int) < (l.length : Int) := by omega
        obtain ⟨pa, hpa⟩ : ∃ pa, ad.add (i * 4) = pa := ⟨_, rfl⟩
        have HFA : Aside0 (∀ w1 b1, Sat w0 w1 (Wt g b1 :: L) → ∀ j, w1.frozen? ⟨pa.block, j, none⟩ = false) := ⟨fun w1 b1 h j => by
          have := HF.out w1 b1 h ad rfl j
          have eb : pa.block = ad.block := by rw [← hpa]; unfold Addr.add; split <;> rfl
          rw [eb]
          exact this⟩
        rw [hpa] at HPA
        have eu1 : IntKind.u64.wrap xi.f3 = xi.f3 := by rw [IntKind.wrap_u64]; have := hxi2.1; have := hxi2.2; omega
        have eu2 : IntKind.u32.wrap xi.f3 = xi.f3 := by rw [IntKind.wrap_u32]; have := hxi2.1; have := hxi2.2; omega
        have HXI : Aside0 (0 ≤ xi.f3 ∧ xi.f3 < 18446744073709551616) := ⟨by have := hxi2.1; have := hxi2.2; omega⟩
        have H2 := HR
        have HERR : Aside0 (∀ x, metaE xi b2 = .error x → metasE l b0 = .error x) := ⟨fun x hr => by rw [HW.out, ← HE.out, HD.out, hr]; rfl⟩
        clear hxi hi hxi2 HR
        go_upto_region 7 with fail
        go_region_with (first | (go_at_call 60; go_loud ((with_reducible refine WOut.calls (name_calls w0 _ _ g b2 pa xi.f0 (by omega) (fun w1 b1 h => (HPA.out w1 b1 h).1) H2.out.drew) ?_ ?_); exact fun x w3 hr hs => ⟨rfl, WOut.bad (by exact HERR.out _ (by simp only [metaE, hr, Except.bind])) rfl hs⟩; intro b3 w3 hr3 hs; have hl3 := nameE_len hr3; have HR3 := Aside0.mk hr3; have H3 := Aside0.mk hs; clear hs hr3)))
        go_upto_region 8 with fail
        go_region_with (first | (go_at_call 61; go_loud ((with_reducible refine WOut.calls (number_calls w0 _ _ g b3 _ xi.f1 1099511627776 (by omega) (by omega) (fun w1 b1 h => (HPA.out w1 b1 h).2.1) H3.out.drew) ?_ ?_); exact fun x w3 hr hs => ⟨rfl, WOut.bad (by exact HERR.out _ (by simp only [metaE, HR3.out, hr, Except.bind])) rfl hs⟩; intro b4 w4 hr4 hs; have hl4 := numE_len hr4 (by decide); have HR4 := Aside0.mk hr4; have H4 := Aside0.mk hs; clear hs hr4)))
        go_upto_region 9 with fail
        go_region_with (first | (go_at_call 61; go_loud ((with_reducible refine WOut.calls (number_calls w0 _ _ g b4 _ xi.f2 512 (by omega) (by omega) (fun w1 b1 h => (HPA.out w1 b1 h).2.2.1) H4.out.drew) ?_ ?_); exact fun x w3 hr hs => ⟨rfl, WOut.bad (by exact HERR.out _ (by simp only [metaE, HR3.out, HR4.out, hr, Except.bind])) rfl hs⟩; intro b5 w5 hr5 hs; have hl5 := numE_len hr5 (by decide); have HR5 := Aside0.mk hr5; have H5 := Aside0.mk hs; clear hs hr5)))
        have x3 := (HPA.out _ _ H5.out).2.2.2
        have H6 : Aside0 (Sat w0 (w5.alloc (.cells #[.int .u64 xi.f3] 24)) (Wt g b5 :: Blk w5.heap.size #[.int .u64 xi.f3] 24 :: L)) := Aside0.mk ((H5.out.newBlk #[.int .u64 xi.f3] 24).nth 1 rfl)
        have hl6 : b5.length ≤ 1000000 := by omega
        go_upto_region 11 with fail
        generalize w5.alloc (.cells #[.int .u64 xi.f3] 24) = w6 at H6 ⊢
        generalize w5.heap.size = gl at H6 ⊢
        go_upto_region 12 with (first | (go_at_call 62; go_loud ((with_reducible refine (wide_calls w0 _ _ g b5 ⟨gl, 0, none⟩ xi.f3 4 4 rfl (by omega) HXI.out hl6 (fun w1 b1 h1 => (h1.nth 1 rfl).cell 0 rfl) H6.out).mono ?_); rintro e w7 ⟨rfl, hs⟩; have H7 := Aside0.mk hs; clear hs)))
        have y0 := (H7.out.nth 1 rfl).cell 0 (v := .int .u64 xi.f3) rfl
        have H8 : Aside0 (Sat w0 w7 (Wt g (wideE xi.f3 4 b5) :: L)) := ⟨(H7.out.nth 1 rfl).tail⟩
        have y1 := (HPA.out _ _ H8.out).2.2.2
        have y2 := HFA.out _ _ H8.out (pa.off + 3)
        have y3 := setCell_same y1
        go_wp2
        go_roundw
        case measure => have := HLT.out; simp only [intOf]; omega
        case rel =>
          have HM := Aside0.mk (show metaE xi b2 = .ok (wideE xi.f3 4 b5) by simp only [metaE, HR3.out, HR4.out, HR5.out, Except.bind])
          refine ⟨i + 1, _, by omega, by go_num, ⟨?_⟩, ⟨?_⟩, H8⟩
          · rw [← HE.out, HD.out, HM.out]
            rfl
          · have := metaE_len HM.out
            have := HLn.out
            omega
      · have d1 : decide ((i : Int) < (l.length : Int)) = false := decide_eq_false (by omega)
        have d1' : decide (i < l.length) = false := decide_eq_false hlt
        have HI := Aside0.mk (show i = l.length by omega)
        clear hlt hi
        go_wp2
        go_end0
        refine WOut.good ?_ rfl HR.out
        rw [HW.out, ← HE.out, HI.out, List.drop_length, mtsE]
end Go.Proofs.Ytpjljhiohimgcaa.WwW
