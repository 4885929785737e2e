/- What is said of a message that comes in, and of an encoder's answer.
   What the calls of wire.writer come to. -/
import Derived.Test.YtpjljhiohimgcaaZWireFields2
import Derived.Test.YtpjljhiohimgcaaZWireFields5
import Derived.Test.YtpjljhiohimgcaaZWireFields4
import Derived.WalkSpells
import Derived.Outline
import Derived.StillTailTactics
import Derived.Laws.Bits64
namespace Go.Proofs.Ytpjljhiohimgcaa.WpP
open Go.RowKit Go.Proofs.YtpjljhiohimgcaaW.PrintWords Go.Proofs.YtpjljhiohimgcaaW.PrintLast Go.Proofs.YtpjljhiohimgcaaW.PrintMore Go.Proofs.Ytpjljhiohimgcaa.QB Go.Proofs.Ytpjljhiohimgcaa.Sl Go.Proofs.Ytpjljhiohimgcaa.Uv Go.Proofs.Ytpjljhiohimgcaa.UvP
set_option linter.unusedVariables false
set_option linter.unusedSimpArgs false
/-- A point's numbers. -/
def OkPt (p : Pt) : Prop := (0 ≤ p.f1 ∧ p.f1 < 18446744073709551616) ∧ (0 ≤ p.f2 ∧ p.f2 < 18446744073709551616)
/-- An entry's numbers. -/
def OkMt (x : Mt) : Prop := 0 ≤ x.f3 ∧ x.f3 < 4294967296
theorem ptAt {w : World} {ad : Addr} {n : Nat} {l : List Pt} (h : Kd.C k26 w (some ad) n l) (i : Nat) (hi : i < l.length) (hn : n = l.length) : w.cell? (ad.add (i * 3)) = some (.int .i64 l[i].f0) ∧ w.cell? ⟨(ad.add (i * 3)).block, (ad.add (i * 3)).off + 1, none⟩ = some (.int .u64 l[i].f1) ∧ w.cell? ⟨(ad.add (i * 3)).block, (ad.add (i * 3)).off + 2, none⟩ = some (.int .u64 l[i].f2) := by
  obtain ⟨ad', e, h0, h1, h2⟩ := at_T26 h (i : Int) (by omega) (by omega)
  cases e
  have e : rd_T26 l (i : Int) = l[i] := by simp [rd_T26, List.getD_eq_getElem?_getD, List.getElem?_eq_getElem hi]
  rw [e] at h0 h1 h2
  exact ⟨h0, h1, h2⟩
theorem mtAt {w : World} {ad : Addr} {n : Nat} {l : List Mt} (h : Kd.C k49 w (some ad) n l) (i : Nat) (hi : i < l.length) (hn : n = l.length) : w.cell? (ad.add (i * 4)) = some (.string l[i].f0) ∧ w.cell? ⟨(ad.add (i * 4)).block, (ad.add (i * 4)).off + 1, none⟩ = some (.int .i64 l[i].f1) ∧ w.cell? ⟨(ad.add (i * 4)).block, (ad.add (i * 4)).off + 2, none⟩ = some (.int .i64 l[i].f2) ∧ w.cell? ⟨(ad.add (i * 4)).block, (ad.add (i * 4)).off + 3, none⟩ = some (.int .u32 l[i].f3) := by
  obtain ⟨ad', e, h0, h1, h2, h3⟩ := at_T49 h (i : Int) (by omega) (by omega)
  cases e
  have e : rd_T49 l (i : Int) = l[i] := by simp [rd_T49, List.getD_eq_getElem?_getD, List.getElem?_eq_getElem hi]
  rw [e] at h0 h1 h2 h3
  exact ⟨h0, h1, h2, h3⟩
/-- A message's bytes and 0, or none and the error. -/
def encR (m : Msg) : List Int × Int := match encM m with
  | .ok b => (b, 0)
  | .error x => ([], x)
/-- What a call of the encoder leaves. -/
def EncOut (m : Msg) (w : World) (e : Ending) (w' : World) : Prop := ∃ v, e = .returned (.tuple #[v, .int .i64 (encR m).2]) ∧ Sat w w' (Row (Kd.int .u8) 5 v (encR m).1 :: [])
theorem EncOut.bad {m : Msg} {x : Int} {w w' : World} {e : Ending} {L : List Asn} (hd : encM m = .error x) (he : e = .returned (.tuple #[.slice none 0 0, .int .i64 x])) (hs : Sat w w' L) : EncOut m w e w' := by
  have e1 : encR m = ([], x) := by unfold encR; rw [hd]
  refine ⟨.slice none 0 0, by rw [e1]; exact he, ?_⟩
  rw [e1]
  exact Sat.nilRow _ _ ⟨hs.below, trivial⟩
/-- A message that came in. -/
structure MIn (w : World) (m : Msg) (Ap : Option Addr) (cp : Nat) (Am : Option Addr) (cm : Nat) : Prop where
  okp : ∀ x ∈ m.ps, OkPt x
  okm : ∀ x ∈ m.ms, OkMt x
  okv : (0 ≤ m.v ∧ m.v < 18446744073709551616) ∧ (0 ≤ m.s ∧ m.s < 18446744073709551616)
  lp : m.ps.length ≤ 1000000
  lm : m.ms.length ≤ 1000000
  cp : m.ps.length ≤ cp
  cm : m.ms.length ≤ cm
  hp : Kd.C k26 w Ap m.ps.length m.ps
  hm : Kd.C k49 w Am m.ms.length m.ms
def We.T5 : Bool × List (List Nat × List Nat) := (true, [([], []), ([0], [0]), ([], []), ([2], [2]), ([3], [3]), ([], []), ([5], [5]), ([6], [6]), ([1, 4, 7], [1, 4, 7]), ([], []), ([9], [9]), ([10], [10]), ([0, 1, 2, 3, 4, 5, 6, 7, 8, 10, 11], []), ([12, 8, 11, 0, 1, 2, 3, 4, 5, 6, 7, 8, 10, 11], [8, 12]), ([0, 1, 2, 3, 4, 5, 6, 7, 8, 9, 10, 11, 12, 13], []), ([14, 11, 13, 0, 1, 2, 3, 4, 5, 6, 7, 8, 9, 10, 11, 12, 13], [11, 14])])
def We.B5 : List Nat := [0, 1, 0, 4, 12, 0, 32, 96, 255, 0, 512, 1536, 4095, 8191, 16383, 32767]
theorem We.tab5 : rtab .any (opsOf Try.f9 5) = We.T5 := by kernel_rfl
theorem We.bits5 : waitsOk We.T5.2 We.B5 = true := by kernel_rfl
/-- A message that came in, of whatever size. -/
structure MIn0 (w : World) (m : Msg) (Ap : Option Addr) (cp : Nat) (Am : Option Addr) (cm : Nat) : Prop where
  okp : ∀ x ∈ m.ps, OkPt x
  okm : ∀ x ∈ m.ms, OkMt x
  okv : (0 ≤ m.v ∧ m.v < 18446744073709551616) ∧ (0 ≤ m.s ∧ m.s < 18446744073709551616)
  cp : m.ps.length ≤ cp
  cm : m.ms.length ≤ cm
  hp : Kd.C k26 w Ap m.ps.length m.ps
  hm : Kd.C k49 w Am m.ms.length m.ms
theorem MIn0.small {w : World} {m : Msg} {Ap Am : Option Addr} {cp cm : Nat} (h : MIn0 w m Ap cp Am cm) (lp : m.ps.length ≤ 1000000) (lm : m.ms.length ≤ 1000000) : MIn w m Ap cp Am cm := ⟨h.okp, h.okm, h.okv, lp, lm, h.cp, h.cm, h.hp, h.hm⟩
theorem MIn.below {w w' : World} {m : Msg} {Ap Am : Option Addr} {cp cm : Nat} (h : MIn w m Ap cp Am cm) (hb : Below w.heap.size w w') : MIn w' m Ap cp Am cm := ⟨h.okp, h.okm, h.okv, h.lp, h.lm, h.cp, h.cm, Kd.C_below h.hp hb, Kd.C_below h.hm hb⟩
end Go.Proofs.Ytpjljhiohimgcaa.WpP
namespace Go.Proofs.Ytpjljhiohimgcaa.WwW
open Go.RowKit Go.Proofs.YtpjljhiohimgcaaW.PrintWords Go.Proofs.YtpjljhiohimgcaaW.PrintLast Go.Proofs.YtpjljhiohimgcaaW.PrintMore Go.Proofs.Ytpjljhiohimgcaa.QB Go.Proofs.Ytpjljhiohimgcaa.Sl Go.Proofs.Ytpjljhiohimgcaa.Uv Go.Proofs.Ytpjljhiohimgcaa.UvP Go.Proofs.Ytpjljhiohimgcaa.WpP
set_option linter.unusedVariables false
set_option linter.unusedSimpArgs false

/-- What a coder gives up by. -/
def wrongP (x : Int) : PanicEntry := { v := .iface 71 (.agg #[.int .i64 x]), recovered := false }
theorem must_ok (w : World) (x : Int) : Calls Try.prog 63 #[.bool true, .int .i64 x] w fun e w' => e = .returned (.tuple #[]) ∧ w' = w := by
  go_enter Try.func63, Try.ntmps63
  go_wp2
  go_end0
  exact ⟨rfl, rfl⟩
theorem must_bad (w : World) (x : Int) : Calls Try.prog 63 #[.bool false, .int .i64 x] w fun e w' => e = .panicked [wrongP x] ∧ w' = w := by
  go_enter Try.func63, Try.ntmps63
  go_wp2
  exact ⟨rfl, rfl, rfl⟩
theorem infoB : (Try.prog.info? 5).map (fun i => (i.zero, i.size, i.bytes)) = some (some (.int .u8 0), 1, 1) := by kernel_rfl
/-- A writer at block g that has written b. -/
def Wt (g : Nat) (b : List Int) : Asn := Ex fun v : Value => All [Blk g #[v] 53, Row (Kd.int .u8) 5 v b]
theorem Wt.open {w0 w : World} {L : List Asn} {g : Nat} {b : List Int} (h : Sat w0 w (Wt g b :: L)) : ∃ v, Sat w0 w (Blk g #[v] 53 :: Row (Kd.int .u8) 5 v b :: L) := by
  obtain ⟨v, h1⟩ := h.some_
  exact ⟨v, h1.opened⟩
theorem Wt.mk {w0 w : World} {L : List Asn} {g : Nat} {b : List Int} {v : Value} (h : Sat w0 w (Blk g #[v] 53 :: Row (Kd.int .u8) 5 v b :: L)) : Sat w0 w (Wt g b :: L) := Sat.any v (Sat.closed h)
theorem _root_.Go.Proofs.Ytpjljhiohimgcaa.Sl.Sat.tail2 {w0 w : World} {A B C : Asn} {L : List Asn} (h : Sat w0 w (A :: B :: C :: L)) : Sat w0 w (A :: L) := ((h.nth 1 rfl).tail.nth 1 rfl).tail
/-- What a call that writes leaves: more bytes, or a panic by the error. -/
def WOut (r : R) (w0 : World) (L : List Asn) (g : Nat) (e : Ending) (w' : World) : Prop :=
  match r with
  | .ok b => e = .returned (.tuple #[]) ∧ Sat w0 w' (Wt g b :: L)
  | .error x => e = .panicked [wrongP x] ∧ Sat w0 w' L
theorem WOut.good {r : R} {w0 w' : World} {L : List Asn} {g : Nat} {e : Ending} {b : List Int} (hr : r = .ok b) (he : e = .returned (.tuple #[])) (hs : Sat w0 w' (Wt g b :: L)) : WOut r w0 L g e w' := by
  subst hr
  exact ⟨he, hs⟩
theorem WOut.bad {r : R} {w0 w' : World} {L : List Asn} {g : Nat} {e : Ending} {x : Int} (hr : r = .error x) (he : e = .panicked [wrongP x]) (hs : Sat w0 w' L) : WOut r w0 L g e w' := by
  subst hr
  exact ⟨he, hs⟩
theorem WOut.isOk {r : R} {w0 w' : World} {L : List Asn} {g : Nat} {e : Ending} {b : List Int} (h : WOut r w0 L g e w') (hr : r = .ok b) : e = .returned (.tuple #[]) ∧ Sat w0 w' (Wt g b :: L) := by
  subst hr
  exact h
theorem WOut.isBad {r : R} {w0 w' : World} {L : List Asn} {g : Nat} {e : Ending} {x : Int} (h : WOut r w0 L g e w') (hr : r = .error x) : e = .panicked [wrongP x] ∧ Sat w0 w' L := by
  subst hr
  exact h
theorem WOut.calls {f : FuncId} {args : Array Value} {r : R} {w0 w : World} {L : List Asn} {g : Nat} {Q : Ending → World → Prop} (h : Calls Try.prog f args w (WOut r w0 L g)) (hb : ∀ x w', r = .error x → Sat w0 w' L → Q (.panicked [wrongP x]) w') (hg : ∀ b w', r = .ok b → Sat w0 w' (Wt g b :: L) → Q (.returned (.tuple #[])) w') : Calls Try.prog f args w Q := by
  refine h.mono ?_
  intro e w' h
  cases r with
  | error x =>
    obtain ⟨rfl, hs⟩ := h
    exact hb x w' rfl hs
  | ok b =>
    obtain ⟨rfl, hs⟩ := h
    exact hg b w' rfl hs
set_option maxHeartbeats 2000000 in
set_option maxRecDepth 100000 in
theorem number_calls (w0 w : World) (L : List Asn) (g : Nat) (b : List Int) (p : Addr) (n most : Int) (hb : b.length ≤ 1000000) (hm : most < 4611686018427387904) (hp : ∀ w1 b1, Sat w0 w1 (Wt g b1 :: L) → w1.cell? p = some (.int .i64 n)) (h : Sat w0 w (Wt g b :: L)) :
    Calls Try.prog 61 #[.pointer (some ⟨g, 0, none⟩), .pointer (some p), .int .i64 most] w (WOut (numE n most b) w0 L g) := by
  have x0 := hp _ _ h
  have HS := Aside0.mk h
  have HP := Aside0.mk hp
  clear h hp
  by_cases h0 : 0 ≤ n
  · have d1 : decide (0 ≤ n) = true := decide_eq_true h0
    by_cases h1 : n ≤ most
    · have d2 : decide (n ≤ most) = true := decide_eq_true h1
      have HE := Aside0.mk (show numE n most b = .ok (b ++ uv n.toNat) by unfold numE; rw [if_pos ⟨h0, h1⟩])
      have ec : IntKind.u64.wrap n = n := by rw [IntKind.wrap_u64]; omega
      have hu := bits_Uvarint_f (v := n.toNat) (k := 20) (l := b) (by omega) (by omega) (by omega) (by omega)
      rw [Int.toNat_of_nonneg h0] at hu
      have HU := Aside0.mk hu
      obtain ⟨v1, hs1⟩ := Wt.open HS.out
      obtain ⟨A1, c1, rfl, hc1, hC1⟩ := (hs1.nth 1 rfl).rowSlice
      have x1 : w.drew.cell? p = some (.int .i64 n) := x0
      have y0 := hs1.drew.cell 0 (v := .slice A1 b.length c1) rfl
      have HC := Aside0.mk (Kd.C_below hC1 (below_drew (Below.refl w.heap.size w)))
      have H1 := Aside0.mk hs1.drew
      clear h0 h1 hu hs1 hC1
      go_enter Try.func61, Try.ntmps61
      go_upto_region 1 with (first | (go_at_call 63; go_loud ((with_reducible refine (must_ok _ 1).mono ?_); rintro e w2 ⟨rfl, rfl⟩)))
      go_region_with (first | (go_at_call 64; go_loud ((with_reducible refine (bits_Uvarint.calls 20 A1 c1 b n _ _ HC.out hc1 HU.out).mono ?_); rintro e w3 ⟨v2, rfl, hr2, hb2⟩; obtain ⟨A2, c2, rfl⟩ := Kd.R_slice hr2; have hs2 := (H1.out.made hb2 hr2).nth 1 rfl; have z0 := hs2.cell 0 (v := .slice A1 b.length c1) rfl; have z1 := hs2.free 0; have H2 := Aside0.mk hs2; clear hs2 hr2 hb2)))
      all_goals
        go_end0
        have hz : Sat w0 w3 (Blk g #[.slice A1 b.length c1] 53 :: Row (Kd.int .u8) 5 (.slice A2 (b ++ uv n.toNat).length c2) (b ++ uv n.toNat) :: Row (Kd.int .u8) 5 (.slice A1 b.length c1) b :: L) := H2.out
        have hy := hz.setBlk 0 (.slice A2 (b ++ uv n.toNat).length c2)
        have hx : Sat w0 _ (Blk g #[.slice A2 (b ++ uv n.toNat).length c2] 53 :: Row (Kd.int .u8) 5 (.slice A2 (b ++ uv n.toNat).length c2) (b ++ uv n.toNat) :: L) := ((hy.nth 2 rfl).tail)
        rw [List.length_append] at hx
        exact WOut.good HE.out rfl (Wt.mk hx)
    · have d2 : decide (n ≤ most) = false := decide_eq_false h1
      have HE := Aside0.mk (show numE n most b = .error 1 by unfold numE; rw [if_neg (fun h => h1 h.2)])
      clear h0 h1
      go_enter Try.func61, Try.ntmps61
      go_wp2_with (first | (go_at_call 63; go_loud ((with_reducible refine (must_bad _ 1).mono ?_); rintro e w2 ⟨rfl, rfl⟩)))
      exact ⟨rfl, WOut.bad HE.out rfl HS.out.tail⟩
  · have d1 : decide (0 ≤ n) = false := decide_eq_false h0
    have HE := Aside0.mk (show numE n most b = .error 1 by unfold numE; rw [if_neg (fun h => h0 h.1)])
    clear h0
    go_enter Try.func61, Try.ntmps61
    go_wp2_with (first | (go_at_call 63; go_loud ((with_reducible refine (must_bad _ 1).mono ?_); rintro e w2 ⟨rfl, rfl⟩)))
    exact ⟨rfl, WOut.bad HE.out rfl HS.out.tail⟩
def Ww.T3 : Bool × List (List Nat × List Nat) := (true, [([], []), ([], []), ([1], [1]), ([2], [2]), ([3], [3]), ([], []), ([5], [5]), ([6], [6]), ([], []), ([8], [8]), ([7, 9], [7, 9]), ([10], [10]), ([11], [11]), ([4, 12], [4, 12]), ([0, 0, 1, 2, 3, 4, 5, 6, 7, 8, 9, 10, 11, 12, 13], [0]), ([14, 0, 1, 2, 3, 4, 5, 6, 7, 8, 9, 10, 11, 12, 13], [14]), ([15, 13, 13, 0, 1, 2, 3, 4, 5, 6, 7, 8, 9, 10, 11, 12, 13], [13, 15])])
def Ww.B3 : List Nat := [0, 0, 2, 6, 14, 0, 32, 96, 0, 256, 992, 2016, 4064, 8190, 16383, 32767, 65535]
theorem Ww.tab3 : rtab .any (opsOf Try.f62 3) = Ww.T3 := by kernel_rfl
theorem Ww.bits3 : waitsOk Ww.T3.2 Ww.B3 = true := by kernel_rfl
set_option maxHeartbeats 2000000 in
set_option maxRecDepth 100000 in
theorem wide_calls (w0 w : World) (L : List Asn) (g : Nat) (b : List Int) (p : Addr) (v : Int) (k : Nat) (ki : Int) (hki : ki = (k : Int)) (hk : k ≤ 8) (hv : 0 ≤ v ∧ v < 18446744073709551616) (hb : b.length ≤ 1000000) (hp : ∀ w1 b1, Sat w0 w1 (Wt g b1 :: L) → w1.cell? p = some (.int .u64 v)) (h : Sat w0 w (Wt g b :: L)) :
    Calls Try.prog 62 #[.pointer (some ⟨g, 0, none⟩), .pointer (some p), .int .i64 ki] w fun e w' => e = .returned (.tuple #[]) ∧ Sat w0 w' (Wt g (wideE v k b) :: L) := by
  have HS := Aside0.mk h
  have HP := Aside0.mk hp
  subst hki
  obtain ⟨q, rfl⟩ : ∃ q : Nat, v = (q : Int) := ⟨v.toNat, by omega⟩
  have e1 : IntKind.i64.wrap (8 * (k : Int)) = 8 * (k : Int) := by rw [IntKind.wrap_i64]; omega
  have e2 : IntKind.i64.wrap (8 * (k : Int) - 8) = 8 * (k : Int) - 8 := by rw [IntKind.wrap_i64]; omega
  clear h hp
  go_enter Try.func62, Try.ntmps62
  go_wp2
  go_loopw [6] (fun v6 wr => ∃ (m : Nat) (i : Int) (b1 : List Int), m ≤ k ∧ i = 8 * (m : Int) - 8 ∧ v6 = .int .i64 i ∧ Aside0 (b1 ++ be m q = b ++ be k q) ∧ Aside0 (Sat w0 wr (Wt g b1 :: L))) (fun v6 _ => (intOf v6 + 8).toNat)
  case atStart => exact ⟨k, 8 * (k : Int) - 8, b, Nat.le_refl _, rfl, rfl, ⟨rfl⟩, HS⟩
  case round =>
    obtain ⟨m, i, b1, hmm, hi, rfl, HB, HL⟩ := hrel
    clear HS
    cases m with
    | zero =>
      have d1 : decide ((0 : Int) ≤ i) = false := by simp; omega
      have HB2 := Aside0.mk (show b1 = b ++ be k q by rw [← HB.out, be, List.append_nil])
      go_wp2
      go_end0
      exact ⟨rfl, by rw [wideE, Int.toNat_natCast, ← HB2.out]; exact HL.out⟩
    | succ m =>
      have d1 : decide ((0 : Int) ≤ i) = true := by simp; omega
      have x1 : wr.drew.cell? p = some (.int .u64 q) := HP.out _ _ HL.out.drew
      obtain ⟨v1, h1⟩ := Wt.open HL.out
      have x0 := h1.drew.cell 0 (v := v1) rfl
      have f0 := h1.free 0
      have H1 : Aside0 (Sat w0 wr (Row (Kd.int .u8) 5 v1 b1 :: Blk g #[v1] 53 :: L)) := ⟨h1.nth 1 rfl⟩
      have hlen := congrArg List.length HB.out
      rw [List.length_append, List.length_append, be_length, be_length] at hlen
      have hl2 : (b1.length + 1) * 1 ≤ 140737488355328 := by omega
      have ei : IntKind.u64.wrap i = i := by rw [IntKind.wrap_u64]; omega
      obtain ⟨n, hn⟩ : ∃ n : Nat, n = 8 * m := ⟨_, rfl⟩
      have em : min i.toNat 64 = n := by omega
      have e3 : IntKind.i64.wrap (i - 8) = 8 * (m : Int) - 8 := by rw [IntKind.wrap_i64]; omega
      obtain ⟨z, ez⟩ : ∃ z : Int, IntKind.u8.wrap ((q : Int) / 2 ^ n) = z := ⟨_, rfl⟩
      have HZ := Aside0.mk (show z = ((q / 256 ^ m % 256 : Nat) : Int) by
        rw [← ez, IntKind.wrap_u8, hn, Int.natCast_emod, Int.natCast_ediv, show (256 : Nat) ^ m = 2 ^ (8 * m) by rw [Nat.pow_mul]]
        push_cast
        rfl)
      have HI := Aside0.mk hi
      have hi0 : 0 ≤ i := by omega
      have hi2 : ¬ i < 0 := by omega
      have hi3 : decide (i < 0) = false := decide_eq_false hi2
      have H0 := Aside0.mk (HL.out)
      clear h1 hlen hi hn
      go_upto_region 3 with fail
      refine start_ (n := 17) (S := fun w' => w'.cell? ⟨g, 0, none⟩ = some v1 ∧ w'.cell? p = some (.int .u64 q)) (ds := [13, 16]) #[false, false, false, false, false, false, false, false, false, false, false, false, false, false, false, false, false] (by kernel_rfl) rfl rfl ⟨x0, x1⟩ (fun hHeld => ?_)
      refine with_tabW Ww.tab3 Ww.bits3 (fun HT_ HW_ => ?_)
      refine pure_ (i := 0) (N := some 14) (v := ?_) (a' := ?_) #[true, false, false, false, false, false, false, false, false, false, false, false, false, false, false, false, false] rfl rfl (any_of HT_.out (by kernel_rfl)) (fun _ _ _ h => h) (Or.inl ⟨by rfl, ?_⟩) ?_ ?_
      rotate_left
      · intro w'
        go_simp
        with_reducible rfl
      rotate_left
      · simp only [Act.put, List.setIfInBounds_toArray, List.set_cons_zero, List.set_cons_succ, i64_w, i32_w]
        rfl
      refine pure_ (i := 1) (N := some 15) (v := ?_) (a' := ?_) #[true, true, false, false, false, false, false, false, false, false, false, false, false, false, false, false, false] rfl rfl (any_of HT_.out (by kernel_rfl)) (fun _ _ _ h => h) (Or.inl ⟨by rfl, ?_⟩) ?_ ?_
      rotate_left
      · intro w'
        go_simp
        with_reducible rfl
      rotate_left
      · simp only [Act.put, List.setIfInBounds_toArray, List.set_cons_zero, List.set_cons_succ, i64_w, i32_w]
        rfl
      refine pure_ (i := 2) (N := some 16) (v := ?_) (a' := ?_) #[true, true, true, false, false, false, false, false, false, false, false, false, false, false, false, false, false] rfl rfl (any_of HT_.out (by kernel_rfl)) (fun _ _ _ h => h) (Or.inl ⟨by rfl, ?_⟩) ?_ ?_
      rotate_left
      · intro w'
        go_simp
        with_reducible rfl
      rotate_left
      · simp only [Act.put, List.setIfInBounds_toArray, List.set_cons_zero, List.set_cons_succ, i64_w, i32_w]
        rfl
      refine pure_ (i := 3) (N := some 17) (v := ?_) (a' := ?_) #[true, true, true, true, false, false, false, false, false, false, false, false, false, false, false, false, false] rfl rfl (any_of HT_.out (by kernel_rfl)) (fun _ _ _ h => h) (Or.inl ⟨by rfl, ?_⟩) ?_ ?_
      rotate_left
      · intro w'
        go_simp
        with_reducible rfl
      rotate_left
      · simp only [Act.put, List.setIfInBounds_toArray, List.set_cons_zero, List.set_cons_succ, i64_w, i32_w]
        rfl
      refine pure_ (i := 5) (N := some 19) (v := ?_) (a' := ?_) #[true, true, true, true, false, true, false, false, false, false, false, false, false, false, false, false, false] rfl rfl (any_of HT_.out (by kernel_rfl)) (fun _ _ _ h => h) (Or.inl ⟨by rfl, ?_⟩) ?_ ?_
      rotate_left
      · intro w'
        go_simp
        with_reducible rfl
      rotate_left
      · simp only [Act.put, List.setIfInBounds_toArray, List.set_cons_zero, List.set_cons_succ, i64_w, i32_w]
        rfl
      refine pure_ (i := 6) (N := some 20) (v := ?_) (a' := ?_) #[true, true, true, true, false, true, true, false, false, false, false, false, false, false, false, false, false] rfl rfl (any_of HT_.out (by kernel_rfl)) (fun _ _ _ h => h) (Or.inl ⟨by rfl, ?_⟩) ?_ ?_
      rotate_left
      · intro w'
        go_simp
        with_reducible rfl
      rotate_left
      · simp only [Act.put, List.setIfInBounds_toArray, List.set_cons_zero, List.set_cons_succ, i64_w, i32_w]
        rfl
      refine pure_ (i := 8) (N := some 22) (v := ?_) (a' := ?_) #[true, true, true, true, false, true, true, false, true, false, false, false, false, false, false, false, false] rfl rfl (any_of HT_.out (by kernel_rfl)) (fun _ _ _ h => h) (Or.inl ⟨by rfl, ?_⟩) ?_ ?_
      rotate_left
      · intro w'
        go_simp
        with_reducible rfl
      rotate_left
      · simp only [Act.put, List.setIfInBounds_toArray, List.set_cons_zero, List.set_cons_succ, i64_w, i32_w]
        rfl
      refine take_ (i := 4) (N := some 18) (v := ?_) (a' := ?_) #[true, true, true, true, true, true, true, false, true, false, false, false, false, false, false, false, false] rfl rfl (take_ofW HT_.out HW_.out (by kernel_rfl)) (fun _ _ _ h => h) (Or.inl ⟨by rfl, ?_⟩) hHeld ?_ ?_
      rotate_left
      · rintro w' ⟨s0, s1⟩
        go_simp
        with_reducible rfl
      rotate_left
      · simp only [Act.put, List.setIfInBounds_toArray, List.set_cons_zero, List.set_cons_succ, i64_w, i32_w]
        rfl
      refine take_ (i := 7) (N := some 21) (v := ?_) (a' := ?_) #[true, true, true, true, true, true, true, true, true, false, false, false, false, false, false, false, false] rfl rfl (take_ofW HT_.out HW_.out (by kernel_rfl)) (fun _ _ _ h => h) (Or.inl ⟨by rfl, ?_⟩) hHeld ?_ ?_
      rotate_left
      · rintro w' ⟨s0, s1⟩
        go_simp
        with_reducible rfl
      rotate_left
      · simp only [Act.put, List.setIfInBounds_toArray, List.set_cons_zero, List.set_cons_succ, i64_w, i32_w]
        rfl
      refine take_ (i := 9) (N := some 23) (v := ?_) (a' := ?_) #[true, true, true, true, true, true, true, true, true, true, false, false, false, false, false, false, false] rfl rfl (take_ofW HT_.out HW_.out (by kernel_rfl)) (fun _ _ _ h => h) (Or.inl ⟨by rfl, ?_⟩) hHeld ?_ ?_
      rotate_left
      · rintro w' ⟨s0, s1⟩
        go_simp
        with_reducible rfl
      rotate_left
      · simp only [Act.put, List.setIfInBounds_toArray, List.set_cons_zero, List.set_cons_succ, i64_w, i32_w]
        rfl
      refine pure_ (i := 10) (N := some 24) (v := ?_) (a' := ?_) #[true, true, true, true, true, true, true, true, true, true, true, false, false, false, false, false, false] rfl rfl (any_of HT_.out (by kernel_rfl)) (fun _ _ _ h => h) (Or.inl ⟨by rfl, ?_⟩) ?_ ?_
      rotate_left
      · intro w'
        go_simp
        with_reducible rfl
      rotate_left
      · simp only [Act.put, List.setIfInBounds_toArray, List.set_cons_zero, List.set_cons_succ, i64_w, i32_w]
        rfl
      refine take_ (i := 11) (N := some 25) (v := ?_) (a' := ?_) #[true, true, true, true, true, true, true, true, true, true, true, true, false, false, false, false, false] rfl rfl (take_ofW HT_.out HW_.out (by kernel_rfl)) (fun _ _ _ h => h) (Or.inl ⟨by rfl, ?_⟩) hHeld ?_ ?_
      rotate_left
      · rintro w' ⟨s0, s1⟩
        go_simp
        with_reducible rfl
      rotate_left
      · simp only [Act.put, List.setIfInBounds_toArray, List.set_cons_zero, List.set_cons_succ, i64_w, i32_w]
        rfl
      refine one_ (i := 12) (N := some 26) #[true, true, true, true, true, true, true, true, true, true, true, true, true, false, false, false, false] rfl rfl (one_of HT_.out (by kernel_rfl)) (by decide) (fun K hK => ?_)
      refine value_ (w1 := ?_) (v := ?_) (by rfl) rfl ?_ ?_
      rotate_left 2
      · go_simp
        constructor
        · rfl
        · rfl
      have HA := Aside0.mk (H1.out.alloc (.cells #[.int .u8 z] 5)).drew
      refine hK.out _ _ ⟨((HA.out.nth 1 rfl).cell 0 rfl), (HP.out _ b1 (Wt.mk (HA.out.nth 1 rfl)))⟩ (fun hHeld => ?_)
      clear hK K
      refine norm_ (a' := ?_) ?_ ?_
      rotate_left
      · show Act.put _ (some 26) _ = _
        simp only [Act.put, List.setIfInBounds_toArray, List.set_cons_zero, List.set_cons_succ, i64_w, i32_w]
        rfl
      refine last_ (i := 13) (N := some 27) #[true, true, true, true, true, true, true, true, true, true, true, true, true, true, false, false, false] rfl rfl (one_of HT_.out (by kernel_rfl)) (by decide) (fun K hK => ?_)
      refine Sat.appendStep (Kd.int .u8) (by rfl) (.tmp 18) (.tmp 26) 33 5 (.int .u8 0) 1 rfl Try.underlying33 infoB rfl (by decide) (by decide) v1 b1 z [.int .u8 z] rfl rfl rfl H1.out.drew hl2 ?_
      intro v2 w5 hs5 _
      obtain ⟨A5, c5, rfl, _, _⟩ := hs5.rowSlice
      have y0 := (hs5.nth 1 rfl).cell 0 (v := v1) rfl
      have y1 := (hs5.nth 1 rfl).free 0
      have H5 := Aside0.mk hs5
      clear hs5
      refine hK.out _ _ ?_
      clear hK K
      refine norm_ (a' := ?_) ?_ ?_
      rotate_left
      · show Act.put _ (some 27) _ = _
        simp only [Act.put, List.setIfInBounds_toArray, List.set_cons_zero, List.set_cons_succ, i64_w, i32_w]
        rfl
      refine pure_ (i := 14) (N := some 28) (v := ?_) (a' := ?_) #[true, true, true, true, true, true, true, true, true, true, true, true, true, true, true, false, false] rfl rfl (any_of HT_.out (by kernel_rfl)) (fun _ _ _ h => h) (Or.inl ⟨by rfl, ?_⟩) ?_ ?_
      rotate_left
      · intro w'
        go_simp
        with_reducible rfl
      rotate_left
      · simp only [Act.put, List.setIfInBounds_toArray, List.set_cons_zero, List.set_cons_succ, i64_w, i32_w]
        rfl
      refine pure_ (i := 15) (N := some 29) (v := ?_) (a' := ?_) #[true, true, true, true, true, true, true, true, true, true, true, true, true, true, true, true, false] rfl rfl (any_of HT_.out (by kernel_rfl)) (fun _ _ _ h => h) (Or.inl ⟨by rfl, ?_⟩) ?_ ?_
      rotate_left
      · intro w'
        go_simp
        with_reducible rfl
      rotate_left
      · simp only [Act.put, List.setIfInBounds_toArray, List.set_cons_zero, List.set_cons_succ, i64_w, i32_w]
        rfl
      refine last_ (i := 16) (N := none) #[true, true, true, true, true, true, true, true, true, true, true, true, true, true, true, true, true] rfl rfl (one_of HT_.out (by kernel_rfl)) (by decide) (fun K hK => ?_)
      refine skip_ (w1 := ?_) (by rfl) rfl ?_ ?_
      rotate_left
      · go_simp
        rfl
      refine hK.out _ _ ?_
      clear hK K
      refine done_ (done_of HT_.out (by kernel_rfl)) ?_
      go_wp2
      go_roundw
      case measure => have := HI.out; simp only [intOf]; omega
      case rel =>
        have hy := (H5.out.nth 1 rfl).setBlk 0 (.slice A5 (b1 ++ [z]).length c5)
        rw [List.length_append] at hy
        have hi := HI.out
        refine ⟨m, i - 8, b1 ++ [z], by omega, by omega, by first | rfl | (congr 1; omega), ⟨?_⟩, ⟨Wt.mk (v := .slice A5 (b1.length + [z].length) c5) ?_⟩⟩
        · rw [← HB.out, be, HZ.out, List.append_assoc]
          rfl
        · have hx : Sat w0 _ (Blk g #[.slice A5 (b1.length + [z].length) c5] 53 :: Row (Kd.int .u8) 5 (.slice A5 (b1.length + [z].length) c5) (b1 ++ [z]) :: L) := hy
          exact hx
end Go.Proofs.Ytpjljhiohimgcaa.WwW
