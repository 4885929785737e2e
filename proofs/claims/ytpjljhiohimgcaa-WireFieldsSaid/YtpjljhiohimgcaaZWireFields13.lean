/- What the calls of the document's encoder of messages come to: lists of points.
   What the calls of the document's encoder of messages come to: lists of entries. -/
import Derived.Test.YtpjljhiohimgcaaZWireFields12
namespace Go.Proofs.Ytpjljhiohimgcaa.RoW
open Go.RowKit Go.Proofs.YtpjljhiohimgcaaW.PrintWords Go.Proofs.YtpjljhiohimgcaaW.PrintLast Go.Proofs.YtpjljhiohimgcaaW.PrintMore Go.Proofs.Ytpjljhiohimgcaa.QB Go.Proofs.Ytpjljhiohimgcaa.Sl Go.Proofs.Ytpjljhiohimgcaa.Uv Go.Proofs.Ytpjljhiohimgcaa.UvP Go.Proofs.Ytpjljhiohimgcaa.UvR Go.Proofs.Ytpjljhiohimgcaa.WpP
set_option linter.unusedVariables false
set_option linter.unusedSimpArgs false
theorem bind_bind (r : R) (f g : List Int → R) : (r.bind f).bind g = r.bind fun b => (f b).bind g := by cases r <;> rfl
theorem ptsE_drop (r : R) {l : List Pt} {i : Nat} (hi : i < l.length) : r.bind (ptsE (l.drop i)) = (r.bind (pointE l[i])).bind (ptsE (l.drop (i + 1))) := by
  rw [List.drop_eq_getElem_cons hi, bind_bind]
  rfl
set_option maxHeartbeats 4000000 in
set_option maxRecDepth 100000 in
theorem points_calls (w0 w : World) (L : List Asn) (g n : Nat) (r : R) (A : Option Addr) (c : Nat) (l : List Pt) (hx : ∀ x ∈ l, OkPt x) (hl : l.length ≤ 1000000) (hc : l.length ≤ c) (hC : Kd.C k26 w0 A l.length l) (hn : n ≤ 100000) (h : Sat w0 w (Ou g n r :: L)) :
    Calls Try.prog 33 #[.pointer (some ⟨g, 0, none⟩), .slice A l.length c] w fun e w' => e = .returned (.tuple #[]) ∧ Sat w0 w' (Ou g (n + 12000) (r.bind (pointsE l)) :: L) := by
  have HX := Aside0.mk hx
  have HC := Aside0.mk hC
  clear hx hC
  cases r with
  | error x =>
    obtain ⟨v1, B, hB, hx, h1⟩ := Ou.openBad h
    have x1 := h1.cell 1 (v := .int .i64 x) rfl
    have d1 : (x != 0) = true := by rw [bne_iff_ne]; exact hx
    have d1' : (x == 0) = false := by rw [beq_eq_false_iff_ne]; exact hx
    have HS : Aside0 (Sat w0 w (Ou g (n + 12000) ((Except.error x : R).bind (pointsE l)) :: L)) := ⟨Ou.mono (by omega) h⟩
    clear h h1
    go_enter Try.func33, Try.ntmps33
    go_wp2_with (first | (go_at_call 29; go_loud ((with_reducible refine (fail_keep w g _ x 52 x1 (.inr hx)).mono ?_); rintro e w2 ⟨rfl, rfl⟩)))
    refine bodyPost_ret (results_none rfl _ _ _) rfl ?_
    exact ⟨rfl, HS.out⟩
  | ok b =>
    obtain ⟨v1, hB, h1⟩ := Ou.openOk h
    have x1 := h1.cell 1 (v := .int .i64 0) rfl
    have f1 := h1.free 1
    have H1 := Aside0.mk h1
    have H0 := Aside0.mk h
    clear h h1
    by_cases h0 : l.length ≤ 512
    · have d2 : decide ((512 : Int) < (l.length : Int)) = false := decide_eq_false (by omega)
      have d3 : decide (512 < l.length) = false := decide_eq_false (by omega)
      have HN := Aside0.mk (show (Except.ok b : R).bind (numE l.length 512) = .ok (b ++ uv l.length) by show numE l.length 512 b = _; unfold numE; rw [if_pos (by omega), Int.toNat_natCast])
      have HW := Aside0.mk (show (Except.ok b : R).bind (pointsE l) = (Except.ok (b ++ uv l.length) : R).bind (ptsE l) by show (manyE l.length 512 b).bind (ptsE l) = _; unfold manyE; rw [if_pos (by omega)])
      obtain ⟨b1, hb1⟩ : ∃ b1, b ++ uv l.length = b1 := ⟨_, rfl⟩
      rw [hb1] at HN HW
      have HL5 := Aside0.mk h0
      clear h0 hb1
      go_enter Try.func33, Try.ntmps33
      go_upto_region 3 with (first | (go_at_call 29; go_loud ((with_reducible refine (fail_keep w g false 0 52 x1 (.inl rfl)).mono ?_); rintro e w2 ⟨rfl, rfl⟩)) | (go_at_call 18; go_loud ((with_reducible refine (number_calls w0 _ _ g n (.ok b) l.length 512 (by omega) (by omega) H0.out).mono ?_); rintro e w3 ⟨rfl, hs⟩; rw [HN.out] at hs; have H3 := Aside0.mk hs; clear hs)))
      clear H0 H1 x1 f1 HN
      go_wp2
      go_loopw [4] (fun v4 wr => ∃ (i : Nat) (r1 : R), i ≤ l.length ∧ v4 = .int .i64 i ∧ Aside0 (r1.bind (ptsE (l.drop i)) = (Except.ok b1 : R).bind (ptsE l)) ∧ Aside0 (Sat w0 wr (Ou g (n + 6 + 22 * i) r1 :: L))) (fun v4 _ => l.length - (intOf v4).toNat)
      case atStart => exact ⟨0, .ok b1, by omega, rfl, ⟨rfl⟩, H3⟩
      case round =>
        obtain ⟨i, r1, hi, rfl, HE, HR⟩ := hrel
        clear H3
        have hl5 := HL5.out
        by_cases hlt : i < l.length
        · have d1 : decide ((i : Int) < (l.length : Int)) = true := decide_eq_true (by omega)
          have d1' : decide (i < l.length) = true := decide_eq_true hlt
          have e1 : IntKind.i64.wrap ((i : Int) + 1) = ((i + 1 : Nat) : Int) := by rw [IntKind.wrap_i64]; omega
          obtain ⟨ad, rfl, _⟩ := at_T26 (ldC HC.out HR.out) (i : Int) (by omega) (by omega)
          obtain ⟨c0, c1, c2⟩ := ptAt (ldC HC.out HR.out) i hlt rfl
          have HXI := Aside0.mk (HX.out l[i] (List.getElem_mem hlt))
          have HD := Aside0.mk (ptsE_drop r1 hlt)
          have HLT := Aside0.mk hlt
          obtain ⟨xi, hxi⟩ : ∃ xi, l[i] = xi := ⟨_, rfl⟩
          rw [hxi] at HXI HD c0 c1 c2
          have hi0 : (0 : Int) ≤ (i : Int) := by omega
          have hi1 : (i : Int) < (l.length : Int) := by omega
          have hn2 : n + 6 + 22 * i ≤ 900000 := by omega
          clear hxi hi
          go_wp2_with (first | (go_at_call 32; go_loud ((with_reducible refine (point_calls w0 _ _ g (n + 6 + 22 * i) r1 xi HXI.out hn2 HR.out).mono ?_); rintro e w4 ⟨rfl, hs⟩; have H4 := Aside0.mk hs; clear hs)))
          go_roundw
          case measure => have := HLT.out; simp only [intOf]; omega
          case rel => exact ⟨i + 1, _, by omega, by go_num, ⟨by rw [← HE.out, HD.out]⟩, ⟨Ou.mono (by omega) H4.out⟩⟩
        · have d1 : decide ((i : Int) < (l.length : Int)) = false := decide_eq_false (by omega)
          have d1' : decide (i < l.length) = false := decide_eq_false hlt
          have HI := Aside0.mk (show i = l.length by omega)
          have HN2 : Aside0 (n + 6 + 22 * i ≤ n + 12000) := ⟨by omega⟩
          clear hlt hi hl5
          go_wp2
          go_end0
          refine ⟨rfl, Ou.mono HN2.out ?_⟩
          rw [HW.out, ← HE.out, HI.out, List.drop_length, show r1.bind (ptsE []) = r1 by cases r1 <;> rfl]
          have hz := HR.out
          rw [HI.out] at hz
          exact hz
    · have d2 : decide ((512 : Int) < (l.length : Int)) = true := decide_eq_true (by omega)
      have d3 : decide (512 < l.length) = true := decide_eq_true (by omega)
      have HE := Aside0.mk (show (Except.ok b : R).bind (pointsE l) = .error 52 by show (manyE l.length 512 b).bind (ptsE l) = _; unfold manyE; rw [if_neg (by omega)]; rfl)
      have H2 : Aside0 (Sat w0 (w.setCell ⟨g, 1, none⟩ (.int .i64 52)) (Ou g (n + 12000) ((Except.ok b : R).bind (pointsE l)) :: L)) := ⟨Ou.mkBad (by omega) HE.out (by omega) (H1.out.setBlk 1 (.int .i64 52))⟩
      have z1 := (H1.out.setBlk 1 (.int .i64 52)).cell 1 (v := .int .i64 52) rfl
      clear h0
      go_enter Try.func33, Try.ntmps33
      go_wp2_with (first | (go_at_call 29; go_loud ((with_reducible refine (fail_set w g 52 x1 f1).mono ?_); rintro e w2 ⟨rfl, rfl⟩)))
      refine bodyPost_ret (results_none rfl _ _ _) rfl ?_
      exact ⟨rfl, H2.out⟩
end Go.Proofs.Ytpjljhiohimgcaa.RoW
namespace Go.Proofs.Ytpjljhiohimgcaa.RoW
open Go.RowKit Go.Proofs.YtpjljhiohimgcaaW.PrintWords Go.Proofs.YtpjljhiohimgcaaW.PrintLast Go.Proofs.YtpjljhiohimgcaaW.PrintMore Go.Proofs.Ytpjljhiohimgcaa.QB Go.Proofs.Ytpjljhiohimgcaa.Sl Go.Proofs.Ytpjljhiohimgcaa.Uv Go.Proofs.Ytpjljhiohimgcaa.UvP Go.Proofs.Ytpjljhiohimgcaa.UvR Go.Proofs.Ytpjljhiohimgcaa.WpP
set_option linter.unusedVariables false
set_option linter.unusedSimpArgs false
theorem mtsE_drop (r : R) {l : List Mt} {i : Nat} (hi : i < l.length) : r.bind (mtsE (l.drop i)) = (r.bind (metaE l[i])).bind (mtsE (l.drop (i + 1))) := by
  rw [List.drop_eq_getElem_cons hi, bind_bind]
  rfl
theorem meta_bind (x : Mt) (r : R) : r.bind (metaE x) = (((r.bind (nameE x.f0)).bind (numE x.f1 1099511627776)).bind (numE x.f2 512)).bind fun c => .ok (wideE x.f3 4 c) := by
  cases r with
  | error _ => rfl
  | ok b =>
    show metaE x b = ((((nameE x.f0) b).bind (numE x.f1 1099511627776)).bind (numE x.f2 512)).bind fun c => .ok (wideE x.f3 4 c)
    unfold metaE
    cases nameE x.f0 b with
    | error _ => rfl
    | ok c =>
      show _ = (((numE x.f1 1099511627776) c).bind (numE x.f2 512)).bind fun c => .ok (wideE x.f3 4 c)
      cases h : numE x.f1 1099511627776 c with
      | error _ => simp only [Except.bind, h]
      | ok d => simp only [Except.bind, h]
theorem OuF.wide {r : R} {B : List Int} {E : Int} (h : OuF r B E) (v : Int) : OuF (r.bind fun c => .ok (wideE v 4 c)) (wideE v 4 B) E := by
  cases r with
  | error x => exact h
  | ok b =>
    obtain ⟨rfl, rfl⟩ := h
    exact ⟨rfl, rfl⟩
theorem be4 {v : Int} {v' : Mt} (h : OkMt v') (e : v'.f3 = v) : [v / 16777216 % 256, v / 65536 % 256, v / 256 % 256, v % 256] = be 4 v.toNat := by
  subst e
  obtain ⟨q, hq⟩ : ∃ q : Nat, v'.f3 = (q : Int) := ⟨v'.f3.toNat, by have := h.1; omega⟩
  rw [hq, Int.toNat_natCast]
  simp only [be, Nat.pow_zero, Nat.div_one]
  congr 1
set_option maxHeartbeats 4000000 in
set_option maxRecDepth 100000 in
theorem metas_calls (w0 w : World) (L : List Asn) (g n : Nat) (r : R) (A : Option Addr) (c : Nat) (l : List Mt) (hx : ∀ x ∈ l, OkMt x) (hl : l.length ≤ 1000000) (hc : l.length ≤ c) (hC : Kd.C k49 w0 A l.length l) (hn : n ≤ 100000) (h : Sat w0 w (Ou g n r :: L)) :
    Calls Try.prog 34 #[.pointer (some ⟨g, 0, none⟩), .slice A l.length c] w fun e w' => e = .returned (.tuple #[]) ∧ Sat w0 w' (Ou g (n + 12000) (r.bind (metasE l)) :: L) := by
  have HX := Aside0.mk hx
  have HC := Aside0.mk hC
  clear hx hC
  cases r with
  | error x =>
    obtain ⟨v1, B, hB, hx, h1⟩ := Ou.openBad h
    have x1 := h1.cell 1 (v := .int .i64 x) rfl
    have d1 : (x != 0) = true := by rw [bne_iff_ne]; exact hx
    have d1' : (x == 0) = false := by rw [beq_eq_false_iff_ne]; exact hx
    have HS : Aside0 (Sat w0 w (Ou g (n + 12000) ((Except.error x : R).bind (metasE l)) :: L)) := ⟨Ou.mono (by omega) h⟩
    clear h h1
    go_enter Try.func34, Try.ntmps34
    go_wp2_with (first | (go_at_call 29; go_loud ((with_reducible refine (fail_keep w g _ x 52 x1 (.inr hx)).mono ?_); rintro e w2 ⟨rfl, rfl⟩)))
    refine bodyPost_ret (results_none rfl _ _ _) rfl ?_
    exact ⟨rfl, HS.out⟩
  | ok b =>
    obtain ⟨v1, hB, h1⟩ := Ou.openOk h
    have x1 := h1.cell 1 (v := .int .i64 0) rfl
    have f1 := h1.free 1
    have H1 := Aside0.mk h1
    have H0 := Aside0.mk h
    clear h h1
    by_cases h0 : l.length ≤ 8
    · have d2 : decide ((8 : Int) < (l.length : Int)) = false := decide_eq_false (by omega)
      have d3 : decide (8 < l.length) = false := decide_eq_false (by omega)
      have HN := Aside0.mk (show (Except.ok b : R).bind (numE l.length 8) = .ok (b ++ uv l.length) by show numE l.length 8 b = _; unfold numE; rw [if_pos (by omega), Int.toNat_natCast])
      have HW := Aside0.mk (show (Except.ok b : R).bind (metasE l) = (Except.ok (b ++ uv l.length) : R).bind (mtsE l) by show (manyE l.length 8 b).bind (mtsE l) = _; unfold manyE; rw [if_pos (by omega)])
      obtain ⟨b1, hb1⟩ : ∃ b1, b ++ uv l.length = b1 := ⟨_, rfl⟩
      rw [hb1] at HN HW
      have HL5 := Aside0.mk h0
      clear h0 hb1
      go_enter Try.func34, Try.ntmps34
      go_upto_region 3 with (first | (go_at_call 29; go_loud ((with_reducible refine (fail_keep w g false 0 52 x1 (.inl rfl)).mono ?_); rintro e w2 ⟨rfl, rfl⟩)) | (go_at_call 18; go_loud ((with_reducible refine (number_calls w0 _ _ g n (.ok b) l.length 8 (by omega) (by omega) H0.out).mono ?_); rintro e w3 ⟨rfl, hs⟩; rw [HN.out] at hs; have H3 := Aside0.mk hs; clear hs)))
      clear H0 H1 x1 f1 HN
      go_wp2
      go_loopw [4] (fun v4 wr => ∃ (i : Nat) (r1 : R), i ≤ l.length ∧ v4 = .int .i64 i ∧ Aside0 (r1.bind (mtsE (l.drop i)) = (Except.ok b1 : R).bind (mtsE l)) ∧ Aside0 (Sat w0 wr (Ou g (n + 6 + 33 * i) r1 :: L))) (fun v4 _ => l.length - (intOf v4).toNat)
      case atStart => exact ⟨0, .ok b1, by omega, rfl, ⟨rfl⟩, H3⟩
      case round =>
        obtain ⟨i, r1, hi, rfl, HE, HR⟩ := hrel
        clear H3
        have hl5 := HL5.out
        by_cases hlt : i < l.length
        · have d1 : decide ((i : Int) < (l.length : Int)) = true := decide_eq_true (by omega)
          have d1' : decide (i < l.length) = true := decide_eq_true hlt
          have e1 : IntKind.i64.wrap ((i : Int) + 1) = ((i + 1 : Nat) : Int) := by rw [IntKind.wrap_i64]; omega
          obtain ⟨ad, rfl, _⟩ := at_T49 (ldC HC.out HR.out) (i : Int) (by omega) (by omega)
          have HPA : Aside0 (∀ W L', Sat w0 W L' → _) := ⟨fun W L' h => mtAt (ldC HC.out h) i hlt rfl⟩
          have HXI := Aside0.mk (HX.out l[i] (List.getElem_mem hlt))
          have HD := Aside0.mk (mtsE_drop r1 hlt)
          have HLT := Aside0.mk hlt
          obtain ⟨xi, hxi⟩ : ∃ xi, l[i] = xi := ⟨_, rfl⟩
          rw [hxi] at HXI HD HPA
          have hi0 : (0 : Int) ≤ (i : Int) := by omega
          have hi1 : (i : Int) < (l.length : Int) := by omega
          have hn2 : n + 6 + 33 * i ≤ 900000 := by omega
          obtain ⟨c0, c1, c2, c3⟩ := HPA.out _ _ HR.out
          rw [meta_bind] at HD
          clear hxi hi
          go_upto_region 10 with (first | (go_at_call 31; go_loud ((with_reducible refine (name_calls w0 _ _ g (n + 6 + 33 * i) r1 xi.f0 (by omega) HR.out).mono ?_); rintro e w4 ⟨rfl, hs⟩; have H4 := Aside0.mk hs; obtain ⟨c0, c1, c2, c3⟩ := HPA.out _ _ hs; clear hs)) | (go_at_call 18; go_loud ((with_reducible refine (number_calls w0 _ _ g (n + 6 + 33 * i + 17) _ xi.f1 1099511627776 (by omega) (by omega) H4.out).mono ?_); rintro e w5 ⟨rfl, hs⟩; have H5 := Aside0.mk hs; obtain ⟨c0, c1, c2, c3⟩ := HPA.out _ _ hs; clear hs)) | (go_at_call 18; go_loud ((with_reducible refine (number_calls w0 _ _ g (n + 6 + 33 * i + 23) _ xi.f2 512 (by omega) (by omega) H5.out).mono ?_); rintro e w6 ⟨rfl, hs⟩; have H6 := Aside0.mk hs; obtain ⟨c0, c1, c2, c3⟩ := HPA.out _ _ hs; clear hs)))
          obtain ⟨v7, B, E, hB, hF, h7⟩ := Ou.open H6.out
          obtain ⟨A7, c7, rfl, _, _⟩ := (h7.nth 1 rfl).rowSlice
          have y0 := h7.cell 0 (v := .slice A7 B.length c7) rfl
          have y1 := h7.free 0
          have H7 := Aside0.mk (h7.nth 1 rfl)
          have HF := Aside0.mk (OuF.wide hF xi.f3)
          have HLB := Aside0.mk hB
          clear h7 hF H4 H5 H6
          have H8 : Aside0 (Sat w0 (w6.alloc (.cells #[.int .u8 (xi.f3 / 16777216 % 256), .int .u8 (xi.f3 / 65536 % 256), .int .u8 (xi.f3 / 256 % 256), .int .u8 (xi.f3 % 256)] 5)) (Row (Kd.int .u8) 5 (.slice (some ⟨w6.heap.size, 0, none⟩) 4 4) [xi.f3 / 16777216 % 256, xi.f3 / 65536 % 256, xi.f3 / 256 % 256, xi.f3 % 256] :: Row (Kd.int .u8) 5 (.slice A7 B.length c7) B :: Blk g #[.slice A7 B.length c7, .int .i64 E] 58 :: L)) := ⟨H7.out.litInts [xi.f3 / 16777216 % 256, xi.f3 / 65536 % 256, xi.f3 / 256 % 256, xi.f3 % 256] 4 rfl (by omega)⟩
          have HLC := Aside0.mk H8.out.rowC
          have hl7 : (B.length + 4) * 1 ≤ 140737488355328 := by have := HLB.out; omega
          have HB4 := Aside0.mk (be4 HXI.out rfl)
          go_wp2_with (first | (at_builtin; go_loud (refine Sat.appendInts rfl (.tmp 56) (.tmp 68) 33 5 .u8 1 rfl Try.underlying33 infoB (by decide) _ B [xi.f3 / 16777216 % 256, xi.f3 / 65536 % 256, xi.f3 / 256 % 256, xi.f3 % 256] _ 4 4 rfl rfl (H8.out.nth 1 rfl) HLC.out hl7 ?_; intro v9 w9 hs9 _; rw [HB4.out] at hs9; obtain ⟨A9, c9, rfl, _, _⟩ := hs9.rowSlice; obtain ⟨n9, hn9⟩ : ∃ n9, (B ++ be 4 xi.f3.toNat).length = n9 := ⟨_, rfl⟩; rw [hn9] at hs9 ⊢; clear hn9; have z0 := (hs9.nth 2 rfl).cell 0 (v := .slice A7 B.length c7) rfl; have z1 := (hs9.nth 2 rfl).free 0; have H9 := Aside0.mk hs9; clear hs9)))
          go_roundw
          case measure => have := HLT.out; simp only [intOf]; omega
          case rel =>
            refine ⟨i + 1, _, by omega, by go_num, ⟨by rw [← HE.out, HD.out]⟩, ⟨?_⟩⟩
            have hz : Sat w0 w9 (Row (Kd.int .u8) 5 (.slice A9 n9 c9) (B ++ be 4 xi.f3.toNat) :: Row (Kd.int .u8) 5 (.slice (some ⟨w6.heap.size, 0, none⟩) 4 4) _ :: Blk g #[.slice A7 B.length c7, .int .i64 E] 58 :: L) := H9.out
            have hy := (hz.nth 2 rfl).setBlk 0 (.slice A9 n9 c9)
            refine Ou.mk (v := .slice A9 n9 c9) ?_ HF.out (hy.nth 2 rfl).tail
            rw [wideE_len]
            have := HLB.out
            omega
        · have d1 : decide ((i : Int) < (l.length : Int)) = false := decide_eq_false (by omega)
          have d1' : decide (i < l.length) = false := decide_eq_false hlt
          have HI := Aside0.mk (show i = l.length by omega)
          have HN2 : Aside0 (n + 6 + 33 * i ≤ n + 12000) := ⟨by omega⟩
          clear hlt hi hl5
          go_wp2
          go_end0
          refine ⟨rfl, Ou.mono HN2.out ?_⟩
          rw [HW.out, ← HE.out, HI.out, List.drop_length, show r1.bind (mtsE []) = r1 by cases r1 <;> rfl]
          have hz := HR.out
          rw [HI.out] at hz
          exact hz
    · have d2 : decide ((8 : Int) < (l.length : Int)) = true := decide_eq_true (by omega)
      have d3 : decide (8 < l.length) = true := decide_eq_true (by omega)
      have HE := Aside0.mk (show (Except.ok b : R).bind (metasE l) = .error 52 by show (manyE l.length 8 b).bind (mtsE l) = _; unfold manyE; rw [if_neg (by omega)]; rfl)
      have H2 : Aside0 (Sat w0 (w.setCell ⟨g, 1, none⟩ (.int .i64 52)) (Ou g (n + 12000) ((Except.ok b : R).bind (metasE l)) :: L)) := ⟨Ou.mkBad (by omega) HE.out (by omega) (H1.out.setBlk 1 (.int .i64 52))⟩
      have z1 := (H1.out.setBlk 1 (.int .i64 52)).cell 1 (v := .int .i64 52) rfl
      clear h0
      go_enter Try.func34, Try.ntmps34
      go_wp2_with (first | (go_at_call 29; go_loud ((with_reducible refine (fail_set w g 52 x1 f1).mono ?_); rintro e w2 ⟨rfl, rfl⟩)))
      refine bodyPost_ret (results_none rfl _ _ _) rfl ?_
      exact ⟨rfl, H2.out⟩
end Go.Proofs.Ytpjljhiohimgcaa.RoW
