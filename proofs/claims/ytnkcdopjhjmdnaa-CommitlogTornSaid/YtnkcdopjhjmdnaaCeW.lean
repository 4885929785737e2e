/- What the calls of commitlog.Encode's two closures come to. -/
import Derived.Test.YtnkcdopjhjmdnaaSl2
import Derived.Test.YtnkcdopjhjmdnaaUvP
import Derived.Test.YtnkcdopjhjmdnaaRuW
import Derived.Test.YtnkcdopjhjmdnaaQBx2
import Derived.Laws.Bits64
namespace Go.Proofs.Ytnkcdopjhjmdnaa.CeW
open Go.RowKit Go.Proofs.YtnkcdopjhjmdnaaW.PrintWords Go.Proofs.YtnkcdopjhjmdnaaW.PrintLast Go.Proofs.YtnkcdopjhjmdnaaW.PrintMore Go.Proofs.Ytnkcdopjhjmdnaa.QB Go.Proofs.Ytnkcdopjhjmdnaa.Sl Go.Proofs.Ytnkcdopjhjmdnaa.Uv Go.Proofs.Ytnkcdopjhjmdnaa.UvP Go.Proofs.Ytnkcdopjhjmdnaa.RuW
set_option linter.unusedVariables false
set_option linter.unusedSimpArgs false

/-- A variable of bytes, at block g. -/
def Cap (g : Nat) (bs : List Int) : Asn := Ex fun v : Value => All [Blk g #[v] 22, Row (Kd.int .u8) 5 v bs]
/-- So many bytes of a number, the greatest first. -/
def be : Nat → Nat → List Int
  | 0, _ => []
  | m + 1, v => ((v / 256 ^ m % 256 : Nat) : Int) :: be m v
theorem be_length : ∀ (m v : Nat), (be m v).length = m
  | 0, _ => rfl
  | m + 1, v => by rw [be, List.length_cons, be_length m v]
theorem byte_be (v m : Nat) : (v : Int) / 2 ^ (8 * (m + 1) - 8) % 256 = ((v / 256 ^ m % 256 : Nat) : Int) := by
  have e : (2 : Nat) ^ (8 * (m + 1) - 8) = 256 ^ m := by rw [show 8 * (m + 1) - 8 = 8 * m by omega, Nat.pow_mul]
  rw [← e, Int.natCast_emod, Int.natCast_ediv, Int.natCast_pow]
  rfl
theorem Cap.open {w0 w : World} {L : List Asn} {g : Nat} {bs : List Int} (h : Sat w0 w (Cap g bs :: L)) : ∃ v, Sat w0 w (Blk g #[v] 22 :: Row (Kd.int .u8) 5 v bs :: L) := by
  obtain ⟨v, h1⟩ := h.some_
  exact ⟨v, h1.opened⟩
theorem Cap.mk {w0 w : World} {L : List Asn} {g : Nat} {bs : List Int} {v : Value} (h : Sat w0 w (Blk g #[v] 22 :: Row (Kd.int .u8) 5 v bs :: L)) : Sat w0 w (Cap g bs :: L) := Sat.any v (Sat.closed h)
set_option maxHeartbeats 2000000 in
set_option maxRecDepth 100000 in
theorem put_calls (w0 w : World) (L : List Asn) (g : Nat) (bs : List Int) (v many : Nat) (hm : many ≤ 8) (hv : v < 18446744073709551616) (hl : bs.length ≤ 1099511627776) (h : Sat w0 w (Cap g bs :: L)) :
    Calls Try.prog 13 #[.int .u64 v, .int .i64 many, .pointer (some ⟨g, 0, none⟩)] w fun e w' => e = .returned (.tuple #[]) ∧ Sat w0 w' (Cap g (bs ++ be many v) :: L) := by
  have HS := Aside0.mk h
  clear h
  go_enter Try.func13, Try.ntmps13
  go_wp2
  go_loopw [5] (fun v5 wr => ∃ (m : Nat) (i : Int) (bs' : List Int), m ≤ many ∧ i = 8 * (m : Int) - 8 ∧ v5 = .int .i64 i ∧ Aside0 (bs' ++ be m v = bs ++ be many v) ∧ Aside0 (Sat w0 wr (Cap g bs' :: L))) (fun v5 _ => (intOf v5 + 8).toNat)
  case atStart => exact ⟨many, 8 * (many : Int) - 8, bs, Nat.le_refl _, rfl, rfl, ⟨rfl⟩, HS⟩
  case round =>
    obtain ⟨m, i, bs', hmm, hi, rfl, HB, HL⟩ := hrel
    clear HS
    cases m with
    | zero =>
      have d1 : decide ((0 : Int) ≤ i) = false := by simp; omega
      have HB2 := Aside0.mk (show bs' = bs ++ be many v by rw [← HB.out, be, List.append_nil])
      go_wp2
      go_end0
      exact ⟨rfl, by rw [← HB2.out]; exact HL.out⟩
    | succ m =>
      have d1 : decide ((0 : Int) ≤ i) = true := by simp; omega
      obtain ⟨v1, h1⟩ := Cap.open HL.out
      have x0 := h1.cell 0 (v := v1) rfl
      have f0 := h1.free 0
      have H1 : Aside0 (Sat w0 wr (Row (Kd.int .u8) 5 v1 bs' :: Blk g #[v1] 22 :: L)) := ⟨h1.nth 1 rfl⟩
      have hlen := congrArg List.length HB.out
      rw [List.length_append, List.length_append, be_length, be_length] at hlen
      have hl2 : (bs'.length + 1) * 1 ≤ 140737488355328 := by omega
      clear h1 hlen
      go_wp2_with (first | (at_builtin; go_loud (refine Sat.appendInt rfl (.tmp 13) (.tmp 19) 22 5 .u8 1 rfl Try.underlying22 UvPinfo (by decide) _ bs' ((v : Int) / 2 ^ (8 * (m + 1) - 8) % 256) rfl rfl H1.out hl2 ?_; intro v2 w2 hs2 _; obtain ⟨gb, cap, rfl, _, _⟩ := hs2.rowBlock (by simp); have z0 := (hs2.nth 1 rfl).cell 0 (v := v1) rfl; have z1 := (hs2.nth 1 rfl).free 0; have H2 := Aside0.mk hs2; clear hs2)))
      go_roundw
      case measure => simp only [intOf]; omega
      case rel =>
        have hz := H2.out.nth 1 rfl
        rw [show (bs' ++ [(v : Int) / 2 ^ (8 * (m + 1) - 8) % 256]).length = bs'.length + 1 by simp] at hz
        refine ⟨m, i - 8, bs' ++ [(v : Int) / 2 ^ (8 * (m + 1) - 8) % 256], by omega, by omega, by first | rfl | (congr 1; omega), ⟨?_⟩, ⟨Cap.mk (hz.setBlk 0 _)⟩⟩
        rw [← HB.out, be, byte_be, List.append_assoc]
        rfl
theorem number_calls (w0 w : World) (L : List Asn) (g : Nat) (bs : List Int) (v : Nat) (hv : v ≤ 1099511627776) (hl : bs.length ≤ 1099511627776) (h : Sat w0 w (Cap g bs :: L)) :
    Calls Try.prog 14 #[.int .i64 v, .pointer (some ⟨g, 0, none⟩)] w fun e w' => e = .returned (.tuple #[]) ∧ Sat w0 w' (Cap g (bs ++ uv v) :: L) := by
  obtain ⟨v1, h1⟩ := Cap.open h
  obtain ⟨A1, c1, rfl, hc1, hC1⟩ := (h1.nth 1 rfl).rowSlice
  have x0 := h1.cell 0 (v := .slice A1 bs.length c1) rfl
  have HC := Aside0.mk hC1
  have HU := Aside0.mk (bits_Uvarint_f (v := v) (k := 20) (l := bs) (by omega) (by omega) (by omega) (by omega))
  have H1 := Aside0.mk h1
  clear h h1 hC1
  go_enter Try.func14, Try.ntmps14
  go_wp2_with (first | (go_at_call 15; go_loud ((with_reducible refine (bits_Uvarint.calls 20 A1 c1 bs (v : Int) _ _ HC.out hc1 HU.out).mono ?_); rintro e w2 ⟨v2, rfl, hr2, hb2⟩; obtain ⟨A2, c2, rfl⟩ := Kd.R_slice hr2; have hs2 := (H1.out.made hb2 hr2).nth 1 rfl; have z0 := hs2.cell 0 (v := .slice A1 bs.length c1) rfl; have z1 := hs2.free 0; have H2 := Aside0.mk hs2; clear hs2 hr2 hb2)))
  go_end0
  have hz : Sat w0 w2 (Blk g #[.slice A1 bs.length c1] 22 :: Row (Kd.int .u8) 5 (.slice A2 (bs ++ uv v).length c2) (bs ++ uv v) :: Row (Kd.int .u8) 5 (.slice A1 bs.length c1) bs :: L) := H2.out
  have hy := hz.setBlk 0 (.slice A2 (bs ++ uv v).length c2)
  have hx : Sat w0 _ (Blk g #[.slice A2 (bs ++ uv v).length c2] 22 :: Row (Kd.int .u8) 5 (.slice A2 (bs ++ uv v).length c2) (bs ++ uv v) :: L) := ((hy.nth 2 rfl).tail)
  rw [List.length_append] at hx
  exact ⟨rfl, Cap.mk hx⟩
end Go.Proofs.Ytnkcdopjhjmdnaa.CeW
