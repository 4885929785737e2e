/- What the calls of the document's encoder of messages come to: numbers and names.
   What the calls of the document's encoder of messages come to: names, wide numbers, points. -/
import Derived.Test.YtpjljhiohimgcaaZWireFields2
import Derived.Test.YtpjljhiohimgcaaZWireFields6
import Derived.Test.YtpjljhiohimgcaaZWireFields11
import Derived.Test.YtpjljhiohimgcaaZWireFields10
import Derived.WalkSpells
import Derived.Outline
import Derived.StillTailTactics
import Derived.Laws.Bits64
import Derived.Deep.CutBlock
namespace Go.Proofs.Ytpjljhiohimgcaa.RoW
open Go.RowKit Go.Proofs.YtpjljhiohimgcaaW.PrintWords Go.Proofs.YtpjljhiohimgcaaW.PrintLast Go.Proofs.YtpjljhiohimgcaaW.PrintMore Go.Proofs.Ytpjljhiohimgcaa.QB Go.Proofs.Ytpjljhiohimgcaa.Sl Go.Proofs.Ytpjljhiohimgcaa.Uv Go.Proofs.Ytpjljhiohimgcaa.UvP Go.Proofs.Ytpjljhiohimgcaa.UvR Go.Proofs.Ytpjljhiohimgcaa.WpP
set_option linter.unusedVariables false
set_option linter.unusedSimpArgs false
theorem infoB : (Try.prog.info? 5).map (fun i => (i.zero, i.size, i.bytes)) = some (some (.int .u8 0), 1, 1) := by kernel_rfl
def OuF (r : R) (B : List Int) (E : Int) : Prop := match r with
  | .ok b => B = b ∧ E = 0
  | .error x => E = x ∧ x ≠ 0
/-- What the document has written at block g, at most n bytes: the bytes of r, or its error. -/
def Ou (g n : Nat) (r : R) : Asn := Ex fun s : Value × List Int × Int => All [Blk g #[s.1, .int .i64 s.2.2] 58, Row (Kd.int .u8) 5 s.1 s.2.1, Fact (s.2.1.length ≤ n ∧ OuF r s.2.1 s.2.2)]
section
variable {w0 w : World} {L : List Asn} {g n n' : Nat} {r : R}
theorem Ou.open (h : Sat w0 w (Ou g n r :: L)) : ∃ v B E, B.length ≤ n ∧ OuF r B E ∧ Sat w0 w (Blk g #[v, .int .i64 E] 58 :: Row (Kd.int .u8) 5 v B :: L) := by
  obtain ⟨⟨v, B, E⟩, h1⟩ := h.some_
  have h2 := h1.opened
  obtain ⟨h3, h4⟩ := (h2.nth 2 rfl).fact
  exact ⟨v, B, E, h3, h4, (h2.nth 2 rfl).tail⟩
theorem Ou.mk {v : Value} {B : List Int} {E : Int} (hn : B.length ≤ n) (hr : OuF r B E) (h : Sat w0 w (Blk g #[v, .int .i64 E] 58 :: Row (Kd.int .u8) 5 v B :: L)) : Sat w0 w (Ou g n r :: L) :=
  Sat.any (v, B, E) (Sat.closed (((h.put (P := B.length ≤ n ∧ OuF r B E) ⟨hn, hr⟩).nth 2 rfl).nth 2 rfl))
theorem Ou.openOk {b : List Int} (h : Sat w0 w (Ou g n (.ok b) :: L)) : ∃ v, b.length ≤ n ∧ Sat w0 w (Blk g #[v, .int .i64 0] 58 :: Row (Kd.int .u8) 5 v b :: L) := by
  obtain ⟨v, B, E, h1, h2, h3⟩ := Ou.open h
  obtain ⟨rfl, rfl⟩ := h2
  exact ⟨v, h1, h3⟩
theorem Ou.openBad {x : Int} (h : Sat w0 w (Ou g n (.error x) :: L)) : ∃ v B, B.length ≤ n ∧ x ≠ 0 ∧ Sat w0 w (Blk g #[v, .int .i64 x] 58 :: Row (Kd.int .u8) 5 v B :: L) := by
  obtain ⟨v, B, E, h1, h2, h3⟩ := Ou.open h
  obtain ⟨rfl, h4⟩ := h2
  exact ⟨v, B, h1, h4, h3⟩
theorem Ou.mkOk {v : Value} {b : List Int} (hn : b.length ≤ n) (hr : r = .ok b) (h : Sat w0 w (Blk g #[v, .int .i64 0] 58 :: Row (Kd.int .u8) 5 v b :: L)) : Sat w0 w (Ou g n r :: L) := Ou.mk hn (by subst hr; exact ⟨rfl, rfl⟩) h
theorem Ou.mkBad {v : Value} {B : List Int} {x : Int} (hn : B.length ≤ n) (hr : r = .error x) (hx : x ≠ 0) (h : Sat w0 w (Blk g #[v, .int .i64 x] 58 :: Row (Kd.int .u8) 5 v B :: L)) : Sat w0 w (Ou g n r :: L) := Ou.mk hn (by subst hr; exact ⟨rfl, hx⟩) h
theorem Ou.mono (hn : n ≤ n') (h : Sat w0 w (Ou g n r :: L)) : Sat w0 w (Ou g n' r :: L) := by
  obtain ⟨v, B, E, h1, h2, h3⟩ := Ou.open h
  exact Ou.mk (Nat.le_trans h1 hn) h2 h3
end
theorem fail_keep (w : World) (g : Nat) (bad : Bool) (E er : Int) (hx : w.cell? ⟨g, 1, none⟩ = some (.int .i64 E)) (hb : bad = false ∨ E ≠ 0) :
    Calls Try.prog 29 #[.pointer (some ⟨g, 0, none⟩), .bool bad, .int .i64 er] w fun e w' => e = .returned (.tuple #[]) ∧ w' = w := by
  cases bad with
  | false =>
    clear hb
    go_enter Try.func29, Try.ntmps29
    go_wp2
    go_end0
    exact ⟨rfl, rfl⟩
  | true =>
    have d1 : (E == 0) = false := by rw [beq_eq_false_iff_ne]; simpa using hb
    clear hb
    go_enter Try.func29, Try.ntmps29
    go_wp2
    go_end0
    exact ⟨rfl, rfl⟩
theorem fail_set (w : World) (g : Nat) (er : Int) (hx : w.cell? ⟨g, 1, none⟩ = some (.int .i64 0)) (hf : w.frozen? ⟨g, 1, none⟩ = false) :
    Calls Try.prog 29 #[.pointer (some ⟨g, 0, none⟩), .bool true, .int .i64 er] w fun e w' => e = .returned (.tuple #[]) ∧ w' = w.setCell ⟨g, 1, none⟩ (.int .i64 er) := by
  go_enter Try.func29, Try.ntmps29
  go_wp2
  go_end0
  exact ⟨rfl, rfl⟩
set_option maxHeartbeats 2000000 in
set_option maxRecDepth 100000 in
theorem number_calls (w0 w : World) (L : List Asn) (g n : Nat) (r : R) (v most : Int) (hn : n ≤ 1000000) (hm : most ≤ 1099511627777) (h : Sat w0 w (Ou g n r :: L)) :
    Calls Try.prog 18 #[.pointer (some ⟨g, 0, none⟩), .int .i64 v, .int .i64 most] w fun e w' => e = .returned (.tuple #[]) ∧ Sat w0 w' (Ou g (n + 6) (r.bind (numE v most)) :: L) := by
  cases r with
  | error x =>
    obtain ⟨v1, B, hB, hx, h1⟩ := Ou.openBad h
    have x1 := h1.cell 1 (v := .int .i64 x) rfl
    have d1 : (x == 0) = false := by rw [beq_eq_false_iff_ne]; exact hx
    have HS : Aside0 (Sat w0 w (Ou g (n + 6) ((Except.error x : R).bind (numE v most)) :: L)) := ⟨Ou.mono (by omega) h⟩
    clear h h1
    by_cases h0 : v < 0
    · have d2 : decide (v < 0) = true := decide_eq_true h0
      clear h0
      go_enter Try.func18, Try.ntmps18
      go_wp2_with (first | (go_at_call 29; go_loud ((with_reducible refine (fail_keep w g _ x 1 x1 (.inr hx)).mono ?_); rintro e w2 ⟨rfl, rfl⟩)))
      go_end0
      exact ⟨rfl, HS.out⟩
    · have d2 : decide (v < 0) = false := decide_eq_false h0
      clear h0
      go_enter Try.func18, Try.ntmps18
      go_wp2_with (first | (go_at_call 29; go_loud ((with_reducible refine (fail_keep w g _ x 1 x1 (.inr hx)).mono ?_); rintro e w2 ⟨rfl, rfl⟩)))
      go_end0
      exact ⟨rfl, HS.out⟩
  | ok b =>
    obtain ⟨v1, hB, h1⟩ := Ou.openOk h
    obtain ⟨A1, c1, rfl, hc1, hC1⟩ := (h1.nth 1 rfl).rowSlice
    have x0 := h1.cell 0 (v := .slice A1 b.length c1) rfl
    have x1 := h1.cell 1 (v := .int .i64 0) rfl
    have f0 := h1.free 0
    have f1 := h1.free 1
    have HC := Aside0.mk hC1
    have H1 := Aside0.mk h1
    clear h h1 hC1
    by_cases h0 : v < 0 ∨ most < v
    · have HE := Aside0.mk (show (Except.ok b : R).bind (numE v most) = .error 1 by show numE v most b = _; unfold numE; rw [if_neg (by omega)])
      have H2 : Aside0 (Sat w0 (w.setCell ⟨g, 1, none⟩ (.int .i64 1)) (Ou g (n + 6) ((Except.ok b : R).bind (numE v most)) :: L)) := ⟨Ou.mkBad (by omega) HE.out (by omega) (H1.out.setBlk 1 (.int .i64 1))⟩
      have z1 := (H1.out.setBlk 1 (.int .i64 1)).cell 1 (v := .int .i64 1) rfl
      by_cases h3 : v < 0
      · have d2 : decide (v < 0) = true := decide_eq_true h3
        clear h0 h3
        go_enter Try.func18, Try.ntmps18
        go_wp2_with (first | (go_at_call 29; go_loud ((with_reducible refine (fail_set w g 1 x1 f1).mono ?_); rintro e w2 ⟨rfl, rfl⟩)))
        go_end0
        exact ⟨rfl, H2.out⟩
      · have d2 : decide (v < 0) = false := decide_eq_false h3
        have d3 : decide (most < v) = true := decide_eq_true (by omega)
        clear h0 h3
        go_enter Try.func18, Try.ntmps18
        go_wp2_with (first | (go_at_call 29; go_loud ((with_reducible refine (fail_set w g 1 x1 f1).mono ?_); rintro e w2 ⟨rfl, rfl⟩)))
        go_end0
        exact ⟨rfl, H2.out⟩
    · have d2 : decide (v < 0) = false := decide_eq_false (by omega)
      have d3 : decide (most < v) = false := decide_eq_false (by omega)
      have hv0 : 0 ≤ v := by omega
      have HE := Aside0.mk (show (Except.ok b : R).bind (numE v most) = .ok (b ++ uv v.toNat) by show numE v most b = _; unfold numE; rw [if_pos (by omega)])
      have hlen := uv_length_le v.toNat 6 (by omega) (by omega)
      have hlen2 : (b ++ uv v.toNat).length ≤ n + 6 := by rw [List.length_append]; omega
      have HLN := Aside0.mk hlen2
      have hu := ref_Uvarint_f (v := v.toNat) (k := 20) (l := b) (by omega) (by omega) (by omega) (by omega)
      rw [Int.toNat_of_nonneg hv0] at hu
      have HU := Aside0.mk hu
      have ec : IntKind.u64.wrap v = v := by rw [IntKind.wrap_u64]; omega
      clear h0 hu hlen hlen2
      go_enter Try.func18, Try.ntmps18
      go_wp2_with (first | (go_at_call 29; go_loud ((with_reducible refine (fail_keep w g false 0 1 x1 (.inl rfl)).mono ?_); rintro e w2 ⟨rfl, rfl⟩)) | (go_at_call 30; go_loud ((with_reducible refine (thermographref03_Uvarint.calls 20 A1 c1 b v _ _ HC.out hc1 HU.out).mono ?_); rintro e w3 ⟨v2, rfl, hr2, hb2⟩; obtain ⟨A2, c2, rfl⟩ := Kd.R_slice hr2; have hs2 := (H1.out.made hb2 hr2).nth 1 rfl; have z0 := hs2.cell 0 (v := .slice A1 b.length c1) rfl; have z1 := hs2.free 0; have H2 := Aside0.mk hs2; clear hs2 hr2 hb2)))
      go_end0
      have hz : Sat w0 w3 (Blk g #[.slice A1 b.length c1, .int .i64 0] 58 :: Row (Kd.int .u8) 5 (.slice A2 (b ++ uv v.toNat).length c2) (b ++ uv v.toNat) :: Row (Kd.int .u8) 5 (.slice A1 b.length c1) b :: L) := H2.out
      have hy := hz.setBlk 0 (.slice A2 (b ++ uv v.toNat).length c2)
      have hx : Sat w0 _ (Blk g #[.slice A2 (b ++ uv v.toNat).length c2, .int .i64 0] 58 :: Row (Kd.int .u8) 5 (.slice A2 (b ++ uv v.toNat).length c2) (b ++ uv v.toNat) :: L) := ((hy.nth 2 rfl).tail)
      rw [List.length_append] at hx
      exact ⟨rfl, Ou.mkOk HLN.out HE.out hx⟩
end Go.Proofs.Ytpjljhiohimgcaa.RoW
namespace Go.Proofs.Ytpjljhiohimgcaa.RoW
open Go.RowKit Go.Proofs.YtpjljhiohimgcaaW.PrintWords Go.Proofs.YtpjljhiohimgcaaW.PrintLast Go.Proofs.YtpjljhiohimgcaaW.PrintMore Go.Proofs.Ytpjljhiohimgcaa.QB Go.Proofs.Ytpjljhiohimgcaa.Sl Go.Proofs.Ytpjljhiohimgcaa.Uv Go.Proofs.Ytpjljhiohimgcaa.UvP Go.Proofs.Ytpjljhiohimgcaa.UvR Go.Proofs.Ytpjljhiohimgcaa.WpP
set_option linter.unusedVariables false
set_option linter.unusedSimpArgs false
theorem Text_f {l : List Int} {s : ByteArray} (hl : l.length ≤ 1000000) (hs : s.size ≤ 1000000) : thermographref08_Text.f 20 l s = some (l ++ uv s.size ++ bytesOf s) := by
  have e : IntKind.u64.wrap (s.size : Int) = (s.size : Int) := by rw [IntKind.wrap_u64]; omega
  have h10 := uv_length10 (v := s.size) (by omega)
  unfold thermographref08_Text.f
  rw [e, ref_Uvarint_f (by omega) (by omega) (by omega) (by omega), Option.bind_some, if_pos (by rw [List.length_append]; omega)]
set_option maxHeartbeats 2000000 in
set_option maxRecDepth 100000 in
theorem name_calls (w0 w : World) (L : List Asn) (g n : Nat) (r : R) (s : ByteArray) (hn : n ≤ 1000000) (h : Sat w0 w (Ou g n r :: L)) :
    Calls Try.prog 31 #[.pointer (some ⟨g, 0, none⟩), .string s] w fun e w' => e = .returned (.tuple #[]) ∧ Sat w0 w' (Ou g (n + 17) (r.bind (nameE s)) :: L) := by
  cases r with
  | error x =>
    obtain ⟨v1, B, hB, hx, h1⟩ := Ou.openBad h
    have x1 := h1.cell 1 (v := .int .i64 x) rfl
    have d1 : (x == 0) = false := by rw [beq_eq_false_iff_ne]; exact hx
    have HS : Aside0 (Sat w0 w (Ou g (n + 17) ((Except.error x : R).bind (nameE s)) :: L)) := ⟨Ou.mono (by omega) h⟩
    clear h h1
    go_enter Try.func31, Try.ntmps31
    go_wp2_with (first | (go_at_call 29; go_loud ((with_reducible refine (fail_keep w g _ x 80 x1 (.inr hx)).mono ?_); rintro e w2 ⟨rfl, rfl⟩)))
    go_end0
    exact ⟨rfl, HS.out⟩
  | ok b =>
    obtain ⟨v1, hB, h1⟩ := Ou.openOk h
    obtain ⟨A1, c1, rfl, hc1, hC1⟩ := (h1.nth 1 rfl).rowSlice
    have x0 := h1.cell 0 (v := .slice A1 b.length c1) rfl
    have x1 := h1.cell 1 (v := .int .i64 0) rfl
    have f0 := h1.free 0
    have f1 := h1.free 1
    have HC := Aside0.mk hC1
    have H1 := Aside0.mk h1
    clear h h1 hC1
    by_cases h0 : s.size ≤ 16
    · have d2 : decide ((16 : Int) < (s.size : Int)) = false := decide_eq_false (by omega)
      have d3 : decide (16 < s.size) = false := decide_eq_false (by omega)
      have HE := Aside0.mk (show (Except.ok b : R).bind (nameE s) = .ok (b ++ uv s.size ++ bytesOf s) by show nameE s b = _; unfold nameE; rw [if_pos h0])
      have HLN := Aside0.mk (show (b ++ uv s.size ++ bytesOf s).length ≤ n + 17 by rw [uv_small (by omega), List.length_append, List.length_append, bytesOf_length, List.length_singleton]; omega)
      have HU := Aside0.mk (Text_f (l := b) (s := s) (by omega) (by omega))
      obtain ⟨b2, hb2⟩ : ∃ b2, b ++ uv s.size ++ bytesOf s = b2 := ⟨_, rfl⟩
      rw [hb2] at HE HLN HU
      clear h0 hb2
      go_enter Try.func31, Try.ntmps31
      go_wp2_with (first | (go_at_call 29; go_loud ((with_reducible refine (fail_keep w g false 0 80 x1 (.inl rfl)).mono ?_); rintro e w2 ⟨rfl, rfl⟩)) | (go_at_call 40; go_loud ((with_reducible refine (thermographref08_Text.calls 20 A1 c1 b s _ _ HC.out hc1 HU.out).mono ?_); rintro e w3 ⟨v2, rfl, hr2, hb2⟩; obtain ⟨A2, c2, rfl⟩ := Kd.R_slice hr2; have hs2 := (H1.out.made hb2 hr2).nth 1 rfl; have z0 := hs2.cell 0 (v := .slice A1 b.length c1) rfl; have z1 := hs2.free 0; have H2 := Aside0.mk hs2; clear hs2 hr2 hb2)))
      go_end0
      have hz : Sat w0 w3 (Blk g #[.slice A1 b.length c1, .int .i64 0] 58 :: Row (Kd.int .u8) 5 (.slice A2 b2.length c2) b2 :: Row (Kd.int .u8) 5 (.slice A1 b.length c1) b :: L) := H2.out
      have hy := hz.setBlk 0 (.slice A2 b2.length c2)
      have hx : Sat w0 _ (Blk g #[.slice A2 b2.length c2, .int .i64 0] 58 :: Row (Kd.int .u8) 5 (.slice A2 b2.length c2) b2 :: L) := ((hy.nth 2 rfl).tail)
      exact ⟨rfl, Ou.mkOk HLN.out HE.out hx⟩
    · have d2 : decide ((16 : Int) < (s.size : Int)) = true := decide_eq_true (by omega)
      have d3 : decide (16 < s.size) = true := decide_eq_true (by omega)
      have HE := Aside0.mk (show (Except.ok b : R).bind (nameE s) = .error 80 by show nameE s b = _; unfold nameE; rw [if_neg h0])
      have H2 : Aside0 (Sat w0 (w.setCell ⟨g, 1, none⟩ (.int .i64 80)) (Ou g (n + 17) ((Except.ok b : R).bind (nameE s)) :: L)) := ⟨Ou.mkBad (by omega) HE.out (by omega) (H1.out.setBlk 1 (.int .i64 80))⟩
      have z1 := (H1.out.setBlk 1 (.int .i64 80)).cell 1 (v := .int .i64 80) rfl
      clear h0
      go_enter Try.func31, Try.ntmps31
      go_wp2_with (first | (go_at_call 29; go_loud ((with_reducible refine (fail_set w g 80 x1 f1).mono ?_); rintro e w2 ⟨rfl, rfl⟩)))
      go_end0
      exact ⟨rfl, H2.out⟩
theorem be_step (m v : Nat) : be (m + 1) v = ((v / 256 ^ m % 256 : Nat) : Int) :: be m v := rfl
set_option maxHeartbeats 2000000 in
set_option maxRecDepth 100000 in
theorem Wide_calls (w0 w : World) (L : List Asn) (v1 : Value) (b : List Int) (x : Int) (hx : 0 ≤ x ∧ x < 18446744073709551616) (hb : b.length ≤ 1000000) (h : Sat w0 w (Row (Kd.int .u8) 5 v1 b :: L)) :
    Calls Try.prog 41 #[v1, .int .u64 x] w fun e w' => ∃ v2, e = .returned v2 ∧ Sat w0 w' (Row (Kd.int .u8) 5 v2 (wideE x 8 b) :: L) := by
  have HS := Aside0.mk h
  obtain ⟨q, rfl⟩ : ∃ q : Nat, x = (q : Int) := ⟨x.toNat, by omega⟩
  have HQ := Aside0.mk hx
  clear h hx
  go_enter Try.func41, Try.ntmps41
  go_wp2
  go_loopw [0, 5] (fun v0 v5 wr => ∃ (m : Nat) (i : Int) (b1 : List Int), m ≤ 8 ∧ Aside0 (i = (m : Int) - 1) ∧ v5 = .int .i64 i ∧ Aside0 (b1 ++ be m q = b ++ be 8 q) ∧ Aside0 (Sat w0 wr (Row (Kd.int .u8) 5 v0 b1 :: L))) (fun _ v5 _ => (intOf v5 + 1).toNat)
  case atStart => exact ⟨8, 7, b, Nat.le_refl _, ⟨rfl⟩, rfl, ⟨rfl⟩, HS⟩
  case round =>
    obtain ⟨m, i, b1, hmm, HI, rfl, HB, HL⟩ := hrel
    clear HS
    have hi := HI.out
    cases m with
    | zero =>
      have d1 : decide ((0 : Int) ≤ i) = false := decide_eq_false (by omega)
      have HB2 := Aside0.mk (show b1 = b ++ be 8 q by rw [← HB.out, be, List.append_nil])
      clear hi
      go_wp2
      go_ret
      exact ⟨_, rfl, by rw [wideE, Int.toNat_natCast, ← HB2.out]; exact HL.out⟩
    | succ m =>
      have d1 : decide ((0 : Int) ≤ i) = true := decide_eq_true (by omega)
      have hlen := congrArg List.length HB.out
      rw [List.length_append, List.length_append, be_length, be_length] at hlen
      have hl2 : (b1.length + 1) * 1 ≤ 140737488355328 := by omega
      obtain ⟨j, hj⟩ : ∃ j : Nat, j = 8 * m := ⟨_, rfl⟩
      have e1 : IntKind.i64.wrap (8 * i) = (j : Int) := by rw [IntKind.wrap_i64]; omega
      have em : min (j : Int).toNat 64 = j := by omega
      have em2 : min j 64 = j := by omega
      have e3 : IntKind.i64.wrap (i - 1) = (m : Int) - 1 := by rw [IntKind.wrap_i64]; omega
      have hj0 : (0 : Int) ≤ (j : Int) := by omega
      obtain ⟨z, ez⟩ : ∃ z : Int, IntKind.u8.wrap ((q : Int) / 2 ^ j) = z := ⟨_, rfl⟩
      have HZ := Aside0.mk (show z = ((q / 256 ^ m % 256 : Nat) : Int) by
        rw [← ez, IntKind.wrap_u8, hj, Int.natCast_emod, Int.natCast_ediv, show (256 : Nat) ^ m = 2 ^ (8 * m) by rw [Nat.pow_mul]]
        push_cast
        rfl)
      clear hlen hi hj
      go_wp2_with (first | (at_builtin; go_loud (refine Sat.appendInt rfl (.tmp 10) (.tmp 16) 33 5 .u8 1 rfl Try.underlying33 infoB (by decide) _ b1 z rfl rfl HL.out hl2 ?_; intro v2 w2 hs2 _; have H2 := Aside0.mk hs2; clear hs2)))
      go_roundw
      case measure => have := HI.out; simp only [intOf]; omega
      case rel =>
        refine ⟨m, (m : Int) - 1, b1 ++ [z], by omega, ⟨rfl⟩, by first | rfl | (rw [HI.out]; congr 1; omega), ⟨?_⟩, H2⟩
        rw [← HB.out, be_step, HZ.out, List.append_assoc]
        rfl
theorem point_bind (x : Pt) (r : R) : r.bind (pointE x) = (r.bind (numE x.f0 1099511627776)).bind fun c => .ok (wideE x.f2 8 (wideE x.f1 8 c)) := by
  cases r <;> rfl
def Rp.T3 : Bool × List (List Nat × List Nat) := (true, [([], []), ([], []), ([1], [1]), ([2], [2]), ([3], [3]), ([], []), ([5], [5]), ([4, 6], [4, 6]), ([], []), ([8], [8]), ([7, 9, 7], [7, 9]), ([0, 0, 1, 2, 3, 4, 5, 6, 7, 8, 9, 10], [0]), ([11, 0, 1, 2, 3, 4, 5, 6, 7, 8, 9, 10], [11]), ([12, 10, 10, 0, 1, 2, 3, 4, 5, 6, 7, 8, 9, 10], [10, 12])])
def Rp.B3 : List Nat := [0, 0, 2, 6, 14, 0, 32, 126, 0, 256, 1022, 2047, 4095, 8191]
theorem Rp.tab3 : rtab .any (opsOf Try.f32 3) = Rp.T3 := by kernel_rfl
theorem Rp.bits3 : waitsOk Rp.T3.2 Rp.B3 = true := by kernel_rfl
set_option maxHeartbeats 4000000 in
set_option maxRecDepth 100000 in
theorem point_calls (w0 w : World) (L : List Asn) (g n : Nat) (r : R) (x : Pt) (hx : OkPt x) (hn : n ≤ 900000) (h : Sat w0 w (Ou g n r :: L)) :
    Calls Try.prog 32 #[.pointer (some ⟨g, 0, none⟩), .agg #[.int .i64 x.f0, .int .u64 x.f1, .int .u64 x.f2]] w fun e w' => e = .returned (.tuple #[]) ∧ Sat w0 w' (Ou g (n + 22) (r.bind (pointE x)) :: L) := by
  have HX1 : Aside0 (0 ≤ x.f1 ∧ x.f1 < 18446744073709551616) := ⟨hx.1⟩
  have HX2 : Aside0 (0 ≤ x.f2 ∧ x.f2 < 18446744073709551616) := ⟨hx.2⟩
  have H1 : Aside0 (Sat w0 (w.alloc (.cells #[.int .i64 x.f0, .int .u64 x.f1, .int .u64 x.f2] 26)) (Ou g n r :: Blk w.heap.size #[.int .i64 x.f0, .int .u64 x.f1, .int .u64 x.f2] 26 :: L)) := ⟨(h.newBlk #[.int .i64 x.f0, .int .u64 x.f1, .int .u64 x.f2] 26).nth 1 rfl⟩
  clear h hx
  rw [point_bind]
  obtain ⟨r1, hr1⟩ : ∃ r1, r.bind (numE x.f0 1099511627776) = r1 := ⟨_, rfl⟩
  rw [hr1]
  have HR1 := Aside0.mk hr1
  clear hr1
  go_enter Try.func32, Try.ntmps32
  go_upto_region 1 with fail
  generalize w.alloc (.cells #[.int .i64 x.f0, .int .u64 x.f1, .int .u64 x.f2] 26) = w1 at H1 ⊢
  generalize w.heap.size = gp at H1 ⊢
  have y0 := (H1.out.nth 1 rfl).cell 0 (v := .int .i64 x.f0) rfl
  go_upto_region 2 with (first | (go_at_call 18; go_loud ((with_reducible refine (number_calls w0 _ _ g n r x.f0 1099511627776 (by omega) (by omega) H1.out).mono ?_); rintro e w2 ⟨rfl, hs⟩; rw [HR1.out] at hs; have H2 := Aside0.mk hs; clear hs)))
  clear y0 H1 HR1
  rcases r1 with er | b1
  · have HS : Aside0 (Sat w0 w2 (Ou g (n + 22) ((Except.error er : R).bind fun c => .ok (wideE x.f2 8 (wideE x.f1 8 c))) :: L)) := ⟨Ou.mono (by omega) (H2.out.nth 1 rfl).tail⟩
    obtain ⟨v1, B, hB, hx, h1⟩ := Ou.openBad H2.out
    have x1 := h1.cell 1 (v := .int .i64 er) rfl
    have d1 : (er == 0) = false := by rw [beq_eq_false_iff_ne]; exact hx
    clear hx h1
    go_wp2
    go_end0
    exact ⟨rfl, HS.out⟩
  · obtain ⟨v1, hB, h1⟩ := Ou.openOk H2.out
    obtain ⟨A1, c1, rfl, _, _⟩ := (h1.nth 1 rfl).rowSlice
    have x1 := h1.cell 1 (v := .int .i64 0) rfl
    obtain ⟨n1, hn1⟩ : ∃ n1, b1.length = n1 := ⟨_, rfl⟩
    have hlb1 : b1.length ≤ 1000000 := by omega
    have hlb2 : (wideE x.f1 8 b1).length ≤ 1000000 := by rw [wideE_len]; omega
    rw [hn1] at h1
    have x0 := h1.drew.cell 0 (v := .slice A1 n1 c1) rfl
    have y1 := (h1.drew.nth 2 rfl).cell 1 (v := .int .u64 x.f1) rfl
    have y2 := (h1.drew.nth 2 rfl).cell 2 (v := .int .u64 x.f2) rfl
    have HR : Aside0 (Sat w0 w2.drew (Row (Kd.int .u8) 5 (.slice A1 n1 c1) b1 :: Blk g #[.slice A1 n1 c1, .int .i64 0] 58 :: Blk gp #[.int .i64 x.f0, .int .u64 x.f1, .int .u64 x.f2] 26 :: L)) := ⟨h1.drew.nth 1 rfl⟩
    have HLN := Aside0.mk (show (wideE x.f2 8 (wideE x.f1 8 b1)).length ≤ n + 22 by rw [wideE_len, wideE_len]; omega)
    clear h1 H2 hB hn1
    go_upto_region 3 with fail
    refine start_ (n := 14) (S := fun w' => w'.cell? ⟨g, 0, none⟩ = some (.slice A1 n1 c1) ∧ w'.cell? ⟨gp, 1, none⟩ = some (.int .u64 x.f1) ∧ w'.cell? ⟨gp, 2, none⟩ = some (.int .u64 x.f2)) (ds := [13]) #[false, false, false, false, false, false, false, false, false, false, false, false, false, false] (by kernel_rfl) rfl rfl ⟨x0, y1, y2⟩ (fun hHeld => ?_)
    refine with_tabW Rp.tab3 Rp.bits3 (fun HT_ HW_ => ?_)
    refine pure_ (i := 0) (N := some 13) (v := ?_) (a' := ?_) #[true, false, false, false, false, false, false, false, false, false, false, false, false, false] rfl rfl (any_of HT_.out (by kernel_rfl)) (fun _ _ _ h => h) (Or.inl ⟨by rfl, ?_⟩) ?_ ?_
    rotate_left
    · intro w'
      go_simp
      with_reducible rfl
    rotate_left
    · simp only [Act.put, List.setIfInBounds_toArray, List.set_cons_zero, List.set_cons_succ, i64_w, i32_w]
      rfl
    refine pure_ (i := 1) (N := some 14) (v := ?_) (a' := ?_) #[true, true, false, false, false, false, false, false, false, false, false, false, false, false] rfl rfl (any_of HT_.out (by kernel_rfl)) (fun _ _ _ h => h) (Or.inl ⟨by rfl, ?_⟩) ?_ ?_
    rotate_left
    · intro w'
      go_simp
      with_reducible rfl
    rotate_left
    · simp only [Act.put, List.setIfInBounds_toArray, List.set_cons_zero, List.set_cons_succ, i64_w, i32_w]
      rfl
    refine pure_ (i := 2) (N := some 15) (v := ?_) (a' := ?_) #[true, true, true, false, false, false, false, false, false, false, false, false, false, false] rfl rfl (any_of HT_.out (by kernel_rfl)) (fun _ _ _ h => h) (Or.inl ⟨by rfl, ?_⟩) ?_ ?_
    rotate_left
    · intro w'
      go_simp
      with_reducible rfl
    rotate_left
    · simp only [Act.put, List.setIfInBounds_toArray, List.set_cons_zero, List.set_cons_succ, i64_w, i32_w]
      rfl
    refine pure_ (i := 3) (N := some 16) (v := ?_) (a' := ?_) #[true, true, true, true, false, false, false, false, false, false, false, false, false, false] rfl rfl (any_of HT_.out (by kernel_rfl)) (fun _ _ _ h => h) (Or.inl ⟨by rfl, ?_⟩) ?_ ?_
    rotate_left
    · intro w'
      go_simp
      with_reducible rfl
    rotate_left
    · simp only [Act.put, List.setIfInBounds_toArray, List.set_cons_zero, List.set_cons_succ, i64_w, i32_w]
      rfl
    refine pure_ (i := 5) (N := some 18) (v := ?_) (a' := ?_) #[true, true, true, true, false, true, false, false, false, false, false, false, false, false] rfl rfl (any_of HT_.out (by kernel_rfl)) (fun _ _ _ h => h) (Or.inl ⟨by rfl, ?_⟩) ?_ ?_
    rotate_left
    · intro w'
      go_simp
      with_reducible rfl
    rotate_left
    · simp only [Act.put, List.setIfInBounds_toArray, List.set_cons_zero, List.set_cons_succ, i64_w, i32_w]
      rfl
    refine pure_ (i := 8) (N := some 21) (v := ?_) (a' := ?_) #[true, true, true, true, false, true, false, false, true, false, false, false, false, false] rfl rfl (any_of HT_.out (by kernel_rfl)) (fun _ _ _ h => h) (Or.inl ⟨by rfl, ?_⟩) ?_ ?_
    rotate_left
    · intro w'
      go_simp
      with_reducible rfl
    rotate_left
    · simp only [Act.put, List.setIfInBounds_toArray, List.set_cons_zero, List.set_cons_succ, i64_w, i32_w]
      rfl
    refine take_ (i := 4) (N := some 17) (v := ?_) (a' := ?_) #[true, true, true, true, true, true, false, false, true, false, false, false, false, false] rfl rfl (take_ofW HT_.out HW_.out (by kernel_rfl)) (fun _ _ _ h => h) (Or.inl ⟨by rfl, ?_⟩) hHeld ?_ ?_
    rotate_left
    · rintro w' ⟨s0, s1, s2⟩
      go_simp
      with_reducible rfl
    rotate_left
    · simp only [Act.put, List.setIfInBounds_toArray, List.set_cons_zero, List.set_cons_succ, i64_w, i32_w]
      rfl
    refine take_ (i := 6) (N := some 19) (v := ?_) (a' := ?_) #[true, true, true, true, true, true, true, false, true, false, false, false, false, false] rfl rfl (take_ofW HT_.out HW_.out (by kernel_rfl)) (fun _ _ _ h => h) (Or.inl ⟨by rfl, ?_⟩) hHeld ?_ ?_
    rotate_left
    · rintro w' ⟨s0, s1, s2⟩
      go_simp
      with_reducible rfl
    rotate_left
    · simp only [Act.put, List.setIfInBounds_toArray, List.set_cons_zero, List.set_cons_succ, i64_w, i32_w]
      rfl
    refine take_ (i := 9) (N := some 22) (v := ?_) (a' := ?_) #[true, true, true, true, true, true, true, false, true, true, false, false, false, false] rfl rfl (take_ofW HT_.out HW_.out (by kernel_rfl)) (fun _ _ _ h => h) (Or.inl ⟨by rfl, ?_⟩) hHeld ?_ ?_
    rotate_left
    · rintro w' ⟨s0, s1, s2⟩
      go_simp
      with_reducible rfl
    rotate_left
    · simp only [Act.put, List.setIfInBounds_toArray, List.set_cons_zero, List.set_cons_succ, i64_w, i32_w]
      rfl
    refine one_ (i := 7) (N := some 20) #[true, true, true, true, true, true, true, true, true, true, false, false, false, false] rfl rfl (one_of HT_.out (by kernel_rfl)) (by decide) (fun K hK => ?_)
    refine goes_ Try.func41 (by kernel_rfl) rfl #[.slice A1 n1 c1, .int .u64 x.f1] (by rfl) rfl rfl (by simp only [List.map_toArray, List.map_cons, List.map_nil]; rfl) ?_
    with_reducible refine (Wide_calls w0 _ _ (.slice A1 n1 c1) b1 x.f1 HX1.out hlb1 HR.out).mono ?_
    rintro e w3 ⟨v3, rfl, hs3⟩
    refine ⟨_, rfl, ?_⟩
    have H3 := Aside0.mk hs3
    clear hs3
    refine hK.out _ _ ⟨((H3.out.nth 1 rfl).cell 0 rfl), ((H3.out.nth 2 rfl).cell 1 rfl), ((H3.out.nth 2 rfl).cell 2 rfl)⟩ (fun hHeld => ?_)
    clear hK K
    refine norm_ (a' := ?_) ?_ ?_
    rotate_left
    · show Act.put _ (some 20) _ = _
      simp only [Act.put, List.setIfInBounds_toArray, List.set_cons_zero, List.set_cons_succ, i64_w, i32_w]
      rfl
    refine one_ (i := 10) (N := some 23) #[true, true, true, true, true, true, true, true, true, true, true, false, false, false] rfl rfl (one_of HT_.out (by kernel_rfl)) (by decide) (fun K hK => ?_)
    refine goes_ Try.func41 (by kernel_rfl) rfl #[v3, .int .u64 x.f2] (by rfl) rfl rfl (by simp only [List.map_toArray, List.map_cons, List.map_nil]; rfl) ?_
    with_reducible refine (Wide_calls w0 _ _ v3 (wideE x.f1 8 b1) x.f2 HX2.out hlb2 H3.out).mono ?_
    rintro e w4 ⟨v4, rfl, hs4⟩
    refine ⟨_, rfl, ?_⟩
    obtain ⟨A4, c4, rfl, _, _⟩ := hs4.rowSlice
    obtain ⟨n4, hn4⟩ : ∃ n4, (wideE x.f2 8 (wideE x.f1 8 b1)).length = n4 := ⟨_, rfl⟩
    rw [hn4] at hs4 ⊢
    clear hn4
    have H4 := Aside0.mk hs4
    clear hs4
    refine hK.out _ _ ⟨((H4.out.nth 1 rfl).cell 0 rfl), ((H4.out.nth 2 rfl).cell 1 rfl), ((H4.out.nth 2 rfl).cell 2 rfl)⟩ (fun hHeld => ?_)
    clear hK K
    refine norm_ (a' := ?_) ?_ ?_
    rotate_left
    · show Act.put _ (some 23) _ = _
      simp only [Act.put, List.setIfInBounds_toArray, List.set_cons_zero, List.set_cons_succ, i64_w, i32_w]
      rfl
    refine pure_ (i := 11) (N := some 24) (v := ?_) (a' := ?_) #[true, true, true, true, true, true, true, true, true, true, true, true, false, false] rfl rfl (any_of HT_.out (by kernel_rfl)) (fun _ _ _ h => h) (Or.inl ⟨by rfl, ?_⟩) ?_ ?_
    rotate_left
    · intro w'
      go_simp
      with_reducible rfl
    rotate_left
    · simp only [Act.put, List.setIfInBounds_toArray, List.set_cons_zero, List.set_cons_succ, i64_w, i32_w]
      rfl
    refine pure_ (i := 12) (N := some 25) (v := ?_) (a' := ?_) #[true, true, true, true, true, true, true, true, true, true, true, true, true, false] rfl rfl (any_of HT_.out (by kernel_rfl)) (fun _ _ _ h => h) (Or.inl ⟨by rfl, ?_⟩) ?_ ?_
    rotate_left
    · intro w'
      go_simp
      with_reducible rfl
    rotate_left
    · simp only [Act.put, List.setIfInBounds_toArray, List.set_cons_zero, List.set_cons_succ, i64_w, i32_w]
      rfl
    refine last_ (i := 13) (N := none) #[true, true, true, true, true, true, true, true, true, true, true, true, true, true] rfl rfl (one_of HT_.out (by kernel_rfl)) (by decide) (fun K hK => ?_)
    have s4 := (H4.out.nth 1 rfl).cell 0 (v := .slice A1 n1 c1) rfl
    have t4 := (H4.out.nth 1 rfl).free 0
    refine skip_ (w1 := ?_) (by rfl) rfl ?_ ?_
    rotate_left
    · go_simp
      rfl
    refine hK.out _ _ ?_
    clear hK K
    refine done_ (done_of HT_.out (by kernel_rfl)) ?_
    go_end0
    have hz : Sat w0 w4 (Row (Kd.int .u8) 5 (.slice A4 n4 c4) (wideE x.f2 8 (wideE x.f1 8 b1)) :: Blk g #[.slice A1 n1 c1, .int .i64 0] 58 :: Blk gp #[.int .i64 x.f0, .int .u64 x.f1, .int .u64 x.f2] 26 :: L) := H4.out
    have hy := (hz.nth 1 rfl).setBlk 0 (.slice A4 n4 c4)
    exact ⟨rfl, Ou.mkOk HLN.out rfl (hy.nth 2 rfl).tail⟩
end Go.Proofs.Ytpjljhiohimgcaa.RoW
