/- What the calls of index.reader come to: a reader stands before bytes that came in; bad: what was to be read was none. -/
import Derived.Test.YtohmbmjneainbaaSl2
import Derived.Test.YtohmbmjneainbaaUvP
import Derived.Test.YtohmbmjneainbaaQBx15
import Derived.WalkSpells
import Derived.Outline
import Derived.StillTailTactics
namespace Go.Proofs.Ytohmbmjneainbaa.IrW
open Go.RowKit Go.Proofs.YtohmbmjneainbaaW.PrintWords Go.Proofs.YtohmbmjneainbaaW.PrintLast Go.Proofs.YtohmbmjneainbaaW.PrintMore Go.Proofs.Ytohmbmjneainbaa.QB Go.Proofs.Ytohmbmjneainbaa.Sl Go.Proofs.Ytohmbmjneainbaa.Uv Go.Proofs.Ytohmbmjneainbaa.UvP
set_option linter.unusedVariables false
set_option linter.unusedSimpArgs false

def Ir (w0 : World) (g : Nat) (b : List Int) (bad : Bool) : Asn := Ex fun v : Value => All [Blk g #[v, .bool bad] 55, Fact (∃ A c, v = .slice A b.length c ∧ b.length ≤ c ∧ Kd.C (Kd.int .u8) w0 A b.length b)]
theorem Ir.open {w0 w : World} {L : List Asn} {g : Nat} {b : List Int} {bad : Bool} (h : Sat w0 w (Ir w0 g b bad :: L)) :
    ∃ A c, b.length ≤ c ∧ Kd.C (Kd.int .u8) w0 A b.length b ∧ Sat w0 w (Blk g #[.slice A b.length c, .bool bad] 55 :: L) := by
  obtain ⟨v, h1⟩ := h.some_
  have h2 := h1.opened
  obtain ⟨A, c, rfl, hc, hC⟩ := (h2.nth 1 rfl).fact
  exact ⟨A, c, hc, hC, (h2.nth 1 rfl).tail⟩
theorem Ir.mk {w0 w : World} {L : List Asn} {g : Nat} {b : List Int} {bad : Bool} {A : Option Addr} {n c : Nat} (hn : n = b.length) (hc : b.length ≤ c) (hC : Kd.C (Kd.int .u8) w0 A b.length b) (h : Sat w0 w (Blk g #[.slice A n c, .bool bad] 55 :: L)) : Sat w0 w (Ir w0 g b bad :: L) := by
  subst hn
  exact Sat.any (.slice A b.length c) (Sat.closed ((h.put ⟨A, c, rfl, hc, hC⟩).nth 1 rfl))
theorem infoB : (Try.prog.info? 5).map (fun i => (i.zero, i.size, i.bytes)) = some (some (.int .u8 0), 1, 1) := by kernel_rfl

theorem take_ok (w0 w : World) (L : List Asn) (g : Nat) (b : List Int) (n : Nat) (hb : b.length ≤ 1099511627776) (hn : n ≤ b.length) (h : Sat w0 w (Ir w0 g b false :: L)) :
    Calls Try.prog 33 #[.pointer (some ⟨g, 0, none⟩), .int .i64 n] w fun e w' => ∃ A c, e = .returned (.slice A n c) ∧ n ≤ c ∧ Kd.C (Kd.int .u8) w0 A n (b.take n) ∧ Sat w0 w' (Ir w0 g (b.drop n) false :: L) := by
  obtain ⟨A, c, hc, hC, h1⟩ := Ir.open h
  have x0 := h1.cell 0 (v := .slice A b.length c) rfl
  have x1 := h1.cell 1 (v := .bool false) rfl
  have f0 := h1.free 0
  have f1 := h1.free 1
  have HS := Aside0.mk h1
  have HC := Aside0.mk hC
  have d1 : decide ((b.length : Int) < (n : Int)) = false := by simp; omega
  have d2 : decide (b.length < n) = false := by simp; omega
  obtain ⟨i0, hi0, _, hsz, _⟩ := info_parts infoB
  have ct := cut_to (P := Try.prog) 24 5 .i64 Try.underlying24 hi0 A b.length c (n : Int) (by omega) (by omega) hc
  have cf := cut_from (P := Try.prog) 24 5 .i64 Try.underlying24 hi0 1 hsz A b.length c (n : Int) (by omega) (by omega)
  simp only [Int.toNat_natCast] at ct cf
  have hCd := Kd.C_drop (m := n) hC hn hc
  obtain ⟨A2, hA2⟩ : ∃ A2, A2 = (if c = n then A else (A : Option Addr).map (·.add (n * 1))) := ⟨_, rfl⟩
  rw [← hA2] at cf
  have hCd2 : Kd.C (Kd.int .u8) w0 A2 (b.drop n).length (b.drop n) := by rw [hA2]; exact hCd
  have HCD := Aside0.mk hCd2
  clear h h1 hC hi0 hsz hA2 hCd hCd2
  go_enter Try.func33, Try.ntmps33
  go_wp2
  go_ret
  refine ⟨A, c, rfl, by omega, ?_, ?_⟩
  · have := Kd.C_take (m := n) HC.out hn
    rwa [List.length_take, Nat.min_eq_left hn] at this
  · exact Ir.mk (by rw [List.length_drop]) (by rw [List.length_drop]; omega) HCD.out (HS.out.setBlk 0 (.slice A2 (b.length - n) (c - n)))

theorem take_short (w0 w : World) (L : List Asn) (g : Nat) (b : List Int) (n : Int) (hn : (b.length : Int) < n) (h : Sat w0 w (Ir w0 g b false :: L)) :
    Calls Try.prog 33 #[.pointer (some ⟨g, 0, none⟩), .int .i64 n] w fun e w' => e = .returned (.slice none 0 0) ∧ Sat w0 w' (Ir w0 g b true :: L) := by
  obtain ⟨A, c, hc, hC, h1⟩ := Ir.open h
  have x0 := h1.cell 0 (v := .slice A b.length c) rfl
  have x1 := h1.cell 1 (v := .bool false) rfl
  have f0 := h1.free 0
  have f1 := h1.free 1
  have HS := Aside0.mk h1
  have HC := Aside0.mk hC
  have d1 : decide ((b.length : Int) < n) = true := by simp; omega
  clear h h1 hC
  go_enter Try.func33, Try.ntmps33
  go_wp2
  go_ret
  exact ⟨rfl, Ir.mk rfl hc HC.out (HS.out.setBlk 1 (.bool true))⟩

theorem take_bad (w0 w : World) (L : List Asn) (g : Nat) (b : List Int) (n : Int) (h : Sat w0 w (Ir w0 g b true :: L)) :
    Calls Try.prog 33 #[.pointer (some ⟨g, 0, none⟩), .int .i64 n] w fun e w' => e = .returned (.slice none 0 0) ∧ Sat w0 w' (Ir w0 g b true :: L) := by
  obtain ⟨A, c, hc, hC, h1⟩ := Ir.open h
  have x0 := h1.cell 0 (v := .slice A b.length c) rfl
  have x1 := h1.cell 1 (v := .bool true) rfl
  have f0 := h1.free 0
  have f1 := h1.free 1
  have HS := Aside0.mk h1
  have HC := Aside0.mk hC
  clear h h1 hC
  go_enter Try.func33, Try.ntmps33
  go_wp2
  go_ret
  exact ⟨rfl, Ir.mk rfl hc HC.out (HS.out.setBlk 1 (.bool true))⟩

/-- The number that stands first, and what stands behind it. -/
def rdNum (b : List Int) : Option (Nat × List Int) := if (ruv b).2 = 0 ∨ 2147483647 < (ruv b).1 then none else some ((ruv b).1.toNat, b.drop (ruv b).2.toNat)
theorem ruv_parts {b : List Int} (hb : Bytes b) : ∃ (v n : Nat), ruv b = ((v : Int), (n : Int)) ∧ n ≤ b.length ∧ v < 18446744073709551616 := by
  rcases ruv_cases hb with ⟨h, _⟩ | ⟨v, t, h1, h2, h3⟩
  · exact ⟨0, 0, h, Nat.zero_le _, by omega⟩
  · exact ⟨v, (uv v).length, h3, by rw [h1, List.length_append]; omega, h2⟩
theorem Bytes.drop {b : List Int} (hb : Bytes b) (n : Nat) : Bytes (b.drop n) := fun x hx => hb x (List.mem_of_mem_drop hx)
theorem Bytes.take {b : List Int} (hb : Bytes b) (n : Nat) : Bytes (b.take n) := fun x hx => hb x (List.mem_of_mem_take hx)

theorem number_ok (w0 w : World) (L : List Asn) (g : Nat) (b : List Int) (v : Nat) (t : List Int) (hby : Bytes b) (hb : b.length ≤ 1099511627776) (hr : rdNum b = some (v, t)) (h : Sat w0 w (Ir w0 g b false :: L)) :
    Calls Try.prog 32 #[.pointer (some ⟨g, 0, none⟩)] w fun e w' => e = .returned (.int .i64 v) ∧ Sat w0 w' (Ir w0 g t false :: L) := by
  obtain ⟨v', n, hv, hn, hl⟩ := ruv_parts hby
  unfold rdNum at hr
  rw [hv] at hr
  simp only at hr
  by_cases hz : (n : Int) = 0 ∨ 2147483647 < (v' : Int)
  · rw [if_pos hz] at hr; cases hr
  rw [if_neg hz] at hr
  simp only [Option.some.injEq, Prod.mk.injEq, Int.toNat_natCast] at hr
  obtain ⟨rfl, rfl⟩ := hr
  have hf := bits_Read_f (k := 30) hby (by omega) (by omega)
  rw [hv] at hf
  obtain ⟨A, c, hc, hC, h1⟩ := Ir.open h
  have x0 := h1.cell 0 (v := .slice A b.length c) rfl
  have HS := Aside0.mk h
  have HC := Aside0.mk (Kd.C_below hC h1.below)
  have HF := Aside0.mk hf
  have d1 : ((n : Int) == 0) = false := by rw [beq_eq_false_iff_ne]; omega
  have d2 : decide (2147483647 < (v' : Int)) = false := by simp; omega
  have d3 : decide (2147483647 < v') = false := by simp; omega
  have e1 : IntKind.i64.wrap (v' : Int) = (v' : Int) := by rw [IntKind.wrap_i64]; omega
  clear h h1 hC hf hv hz
  go_enter Try.func32, Try.ntmps32
  go_wp2_with (first | (go_at_call 37; go_loud ((with_reducible refine (bits_ReadUvarint.calls 30 A c b (v' : Int) (n : Int) _ HC.out hc HF.out).mono ?_); rintro e w1 ⟨rfl, ⟨⟨m, hm⟩⟩⟩; have HS1 := Aside0.mk (HS.out.drewN m); rw [← hm] at HS1; clear hm)) | (go_at_call 33; go_loud ((with_reducible refine (take_ok w0 _ L g b n hb hn HS1.out).mono ?_); rintro e w2 ⟨A2, c2, rfl, _, _, hs2⟩; have HS2 := Aside0.mk hs2; clear hs2)))
  go_ret
  exact ⟨rfl, HS2.out⟩
theorem number_none (w0 w : World) (L : List Asn) (g : Nat) (b : List Int) (hby : Bytes b) (hb : b.length ≤ 1099511627776) (hr : rdNum b = none) (bad : Bool) (h : Sat w0 w (Ir w0 g b bad :: L)) :
    Calls Try.prog 32 #[.pointer (some ⟨g, 0, none⟩)] w fun e w' => e = .returned (.int .i64 0) ∧ Sat w0 w' (Ir w0 g b true :: L) := by
  obtain ⟨v', n, hv, hn, hl⟩ := ruv_parts hby
  unfold rdNum at hr
  rw [hv] at hr
  simp only at hr
  by_cases hz' : ¬ ((n : Int) = 0 ∨ 2147483647 < (v' : Int))
  · rw [if_neg hz'] at hr; cases hr
  have hz := Decidable.of_not_not hz'
  clear hz'
  have hf := bits_Read_f (k := 30) hby (by omega) (by omega)
  rw [hv] at hf
  obtain ⟨A, c, hc, hC, h1⟩ := Ir.open h
  have x0 := h1.cell 0 (v := .slice A b.length c) rfl
  have x1 := h1.cell 1 (v := .bool bad) rfl
  have f1 := h1.free 1
  have HS := Aside0.mk h1
  have HC := Aside0.mk (Kd.C_below hC h1.below)
  have HC0 := Aside0.mk hC
  have HF := Aside0.mk hf
  clear h h1 hC hf hv hr
  by_cases hn0 : (n : Int) = 0
  · have d1 : ((n : Int) == 0) = true := by rw [beq_iff_eq]; omega
    clear hz hn0
    go_enter Try.func32, Try.ntmps32
    go_wp2_with (first | (go_at_call 37; go_loud ((with_reducible refine (bits_ReadUvarint.calls 30 A c b (v' : Int) (n : Int) _ HC.out hc HF.out).mono ?_); rintro e w1 ⟨rfl, ⟨⟨m, rfl⟩⟩⟩; have HS1 := Aside0.mk (HS.out.drewN m))))
    go_ret
    exact ⟨rfl, Ir.mk rfl hc HC0.out (HS1.out.setBlk 1 (.bool true))⟩
  · have d1 : ((n : Int) == 0) = false := by rw [beq_eq_false_iff_ne]; omega
    have d2 : decide (2147483647 < (v' : Int)) = true := by simp; omega
    have d3 : decide (2147483647 < v') = true := by simp; omega
    clear hz hn0
    go_enter Try.func32, Try.ntmps32
    go_wp2_with (first | (go_at_call 37; go_loud ((with_reducible refine (bits_ReadUvarint.calls 30 A c b (v' : Int) (n : Int) _ HC.out hc HF.out).mono ?_); rintro e w1 ⟨rfl, ⟨⟨m, rfl⟩⟩⟩; have HS1 := Aside0.mk (HS.out.drewN m))))
    go_ret
    exact ⟨rfl, Ir.mk rfl hc HC0.out (HS1.out.setBlk 1 (.bool true))⟩
theorem number_bad (w0 w : World) (L : List Asn) (g : Nat) (b : List Int) (hby : Bytes b) (hb : b.length ≤ 1099511627776) (h : Sat w0 w (Ir w0 g b true :: L)) :
    Calls Try.prog 32 #[.pointer (some ⟨g, 0, none⟩)] w fun e w' => ∃ v : Nat, v ≤ 2147483647 ∧ e = .returned (.int .i64 v) ∧ Sat w0 w' (Ir w0 g b true :: L) := by
  by_cases hr : rdNum b = none
  · exact (number_none w0 w L g b hby hb hr true h).mono fun e w' ⟨h1, h2⟩ => ⟨0, by omega, h1, h2⟩
  obtain ⟨⟨v, t⟩, hr⟩ := Option.ne_none_iff_exists'.1 hr
  obtain ⟨v', n, hv, hn, hl⟩ := ruv_parts hby
  unfold rdNum at hr
  rw [hv] at hr
  simp only at hr
  by_cases hz : (n : Int) = 0 ∨ 2147483647 < (v' : Int)
  · rw [if_pos hz] at hr; cases hr
  rw [if_neg hz] at hr
  simp only [Option.some.injEq, Prod.mk.injEq, Int.toNat_natCast] at hr
  obtain ⟨rfl, rfl⟩ := hr
  have hf := bits_Read_f (k := 30) hby (by omega) (by omega)
  rw [hv] at hf
  obtain ⟨A, c, hc, hC, h1⟩ := Ir.open h
  have x0 := h1.cell 0 (v := .slice A b.length c) rfl
  have HS := Aside0.mk h
  have HC := Aside0.mk (Kd.C_below hC h1.below)
  have HF := Aside0.mk hf
  have d1 : ((n : Int) == 0) = false := by rw [beq_eq_false_iff_ne]; omega
  have d2 : decide (2147483647 < (v' : Int)) = false := by simp; omega
  have d3 : decide (2147483647 < v') = false := by simp; omega
  have e1 : IntKind.i64.wrap (v' : Int) = (v' : Int) := by rw [IntKind.wrap_i64]; omega
  have hvm : v' ≤ 2147483647 := by omega
  clear h h1 hC hf hv hz
  go_enter Try.func32, Try.ntmps32
  go_wp2_with (first | (go_at_call 37; go_loud ((with_reducible refine (bits_ReadUvarint.calls 30 A c b (v' : Int) (n : Int) _ HC.out hc HF.out).mono ?_); rintro e w1 ⟨rfl, ⟨⟨m, hm⟩⟩⟩; have HS1 := Aside0.mk (HS.out.drewN m); rw [← hm] at HS1; clear hm)) | (go_at_call 33; go_loud ((with_reducible refine (take_bad w0 _ L g b n HS1.out).mono ?_); rintro e w2 ⟨rfl, hs2⟩; have HS2 := Aside0.mk hs2; clear hs2)))
  go_ret
  exact ⟨v', hvm, rfl, HS2.out⟩

/-- The name that stands first, and what stands behind it. -/
def rdName (b : List Int) : Option (ByteArray × List Int) := (rdNum b).bind fun p => if p.1 < 1 ∨ 16 < p.1 ∨ p.2.length < p.1 then none else some (strOfNums (p.2.take p.1), p.2.drop p.1)
theorem rdNum_bytes {b : List Int} (hb : Bytes b) {v : Nat} {t : List Int} (h : rdNum b = some (v, t)) : Bytes t ∧ t.length ≤ b.length ∧ v ≤ 2147483647 := by
  unfold rdNum at h
  split at h
  · cases h
  · rename_i hz
    simp only [Option.some.injEq, Prod.mk.injEq] at h
    obtain ⟨rfl, rfl⟩ := h
    exact ⟨Bytes.drop hb _, by rw [List.length_drop]; omega, by omega⟩
theorem name_ok (w0 w : World) (L : List Asn) (g : Nat) (b : List Int) (s : ByteArray) (t : List Int) (hby : Bytes b) (hb : b.length ≤ 1099511627776) (hr : rdName b = some (s, t)) (h : Sat w0 w (Ir w0 g b false :: L)) :
    Calls Try.prog 31 #[.pointer (some ⟨g, 0, none⟩)] w fun e w' => e = .returned (.string s) ∧ Sat w0 w' (Ir w0 g t false :: L) := by
  unfold rdName at hr
  cases hn : rdNum b with
  | none => rw [hn] at hr; cases hr
  | some p =>
    obtain ⟨n, u⟩ := p
    rw [hn] at hr
    simp only [Option.bind_some] at hr
    by_cases hz : n < 1 ∨ 16 < n ∨ u.length < n
    · rw [if_pos hz] at hr; cases hr
    rw [if_neg hz] at hr
    simp only [Option.some.injEq, Prod.mk.injEq] at hr
    obtain ⟨hs, rfl⟩ := hr
    obtain ⟨k1, k2, _⟩ := rdNum_bytes hby hn
    have HS := Aside0.mk h
    have HN := Aside0.mk hn
    have HY := Aside0.mk hby
    have d1 : decide ((n : Int) < 1) = false := by simp; omega
    have d2 : decide ((16 : Int) < (n : Int)) = false := by simp; omega
    have d3 : decide (16 < n) = false := by simp; omega
    have ul : u.length ≤ 1099511627776 := by omega
    have un : n ≤ u.length := by omega
    have HSE := Aside0.mk hs
    clear h hn hs k1 k2 hz hby
    go_enter Try.func31, Try.ntmps31
    go_wp2_with (first | (go_at_call 32; go_loud ((with_reducible refine (number_ok w0 _ L g b n u HY.out hb HN.out HS.out).mono ?_); rintro e w1 ⟨rfl, hs1⟩; have HS1 := Aside0.mk hs1; clear hs1)) | (go_at_call 33; go_loud ((with_reducible refine (take_ok w0 _ L g u n ul un HS1.out).mono ?_); rintro e w2 ⟨A2, c2, rfl, hc2, hC2, hs2⟩; have hcv := Kd.C_string (P := Try.prog) (src := 24) (dst := 9) (c := c2) Try.underlying24 Try.underlying5 Try.underlying9 (Kd.C_below hC2 hs2.below); rw [HSE.out] at hcv; have HS2 := Aside0.mk hs2; clear hs2 hC2)))
    go_ret
    exact ⟨rfl, HS2.out⟩
theorem nilStr (W : World) : (convert 24 9 (.slice none 0 0)).run Try.prog W = .ok (.string (strOfNums [])) W := Kd.C_string (P := Try.prog) (src := 24) (dst := 9) (c := 0) Try.underlying24 Try.underlying5 Try.underlying9 (Kd.C_nil _ _)
theorem name_bad (w0 w : World) (L : List Asn) (g : Nat) (b : List Int) (hby : Bytes b) (hb : b.length ≤ 1099511627776) (h : Sat w0 w (Ir w0 g b true :: L)) :
    Calls Try.prog 31 #[.pointer (some ⟨g, 0, none⟩)] w fun e w' => ∃ s, e = .returned (.string s) ∧ Sat w0 w' (Ir w0 g b true :: L) := by
  have HS := Aside0.mk h
  have HY := Aside0.mk hby
  have hnil := nilStr
  clear h hby
  go_enter Try.func31, Try.ntmps31
  go_upto_region 2 with (first | (go_at_call 32; go_loud ((with_reducible refine (number_bad w0 _ L g b HY.out hb HS.out).mono ?_); rintro e w1 ⟨n, hn, rfl, hs1⟩; have HS1 := Aside0.mk hs1; clear hs1)))
  obtain ⟨A, c, hc, hC, h1⟩ := Ir.open HS1.out
  have x1 := h1.cell 1 (v := .bool true) rfl
  have f1 := h1.free 1
  have HB := Aside0.mk h1
  have HC := Aside0.mk hC
  clear h1 hC
  by_cases hz : n < 1 ∨ 16 < n
  · have HS2 := Aside0.mk (Ir.mk rfl hc HC.out (HB.out.setBlk 1 (.bool true)))
    by_cases hz1 : n < 1
    · have d1 : decide ((n : Int) < 1) = true := by simp; omega
      clear hz hz1
      go_wp2_with (first | (go_at_call 33; go_loud ((with_reducible refine (take_bad w0 _ L g b n HS2.out).mono ?_); rintro e w2 ⟨rfl, hs2⟩; have HS3 := Aside0.mk hs2; clear hs2)))
      go_ret
      exact ⟨_, rfl, HS3.out⟩
    · have d1 : decide ((n : Int) < 1) = false := by simp; omega
      have d2 : decide ((16 : Int) < (n : Int)) = true := by simp; omega
      have d3 : decide (16 < n) = true := by simp; omega
      clear hz hz1
      go_wp2_with (first | (go_at_call 33; go_loud ((with_reducible refine (take_bad w0 _ L g b n HS2.out).mono ?_); rintro e w2 ⟨rfl, hs2⟩; have HS3 := Aside0.mk hs2; clear hs2)))
      go_ret
      exact ⟨_, rfl, HS3.out⟩
  · have d1 : decide ((n : Int) < 1) = false := by simp; omega
    have d2 : decide ((16 : Int) < (n : Int)) = false := by simp; omega
    have d3 : decide (16 < n) = false := by simp; omega
    clear hz
    go_wp2_with (first | (go_at_call 33; go_loud ((with_reducible refine (take_bad w0 _ L g b n HS1.out).mono ?_); rintro e w2 ⟨rfl, hs2⟩; have HS3 := Aside0.mk hs2; clear hs2)))
    go_ret
    exact ⟨_, rfl, HS3.out⟩
theorem name_none (w0 w : World) (L : List Asn) (g : Nat) (b : List Int) (hby : Bytes b) (hb : b.length ≤ 1099511627776) (hr : rdName b = none) (h : Sat w0 w (Ir w0 g b false :: L)) :
    Calls Try.prog 31 #[.pointer (some ⟨g, 0, none⟩)] w fun e w' => ∃ s u, e = .returned (.string s) ∧ Bytes u ∧ u.length ≤ b.length ∧ Sat w0 w' (Ir w0 g u true :: L) := by
  have hnil := nilStr
  cases hn : rdNum b with
  | none =>
    have HS := Aside0.mk h
    have HY := Aside0.mk hby
    have HN := Aside0.mk hn
    have d1 : decide ((0 : Int) < 1) = true := by decide
    clear h hby hn hr
    go_enter Try.func31, Try.ntmps31
    go_upto_region 2 with (first | (go_at_call 32; go_loud ((with_reducible refine (number_none w0 _ L g b HY.out hb HN.out false HS.out).mono ?_); rintro e w1 ⟨rfl, hs1⟩; have HS1 := Aside0.mk hs1; clear hs1)))
    obtain ⟨A, c, hc, hC, h1⟩ := Ir.open HS1.out
    have x1 := h1.cell 1 (v := .bool true) rfl
    have f1 := h1.free 1
    have HS2 := Aside0.mk (Ir.mk rfl hc hC (h1.setBlk 1 (.bool true)))
    clear h1 hC
    go_wp2_with (first | (go_at_call 33; go_loud ((with_reducible refine (take_bad w0 _ L g b 0 HS2.out).mono ?_); rintro e w2 ⟨rfl, hs2⟩; have HS3 := Aside0.mk hs2; clear hs2)))
    go_ret
    exact ⟨_, b, rfl, HY.out, Nat.le_refl _, HS3.out⟩
  | some p =>
    obtain ⟨n, u⟩ := p
    unfold rdName at hr
    rw [hn] at hr
    simp only [Option.bind_some] at hr
    by_cases hz' : ¬ (n < 1 ∨ 16 < n ∨ u.length < n)
    · rw [if_neg hz'] at hr; cases hr
    have hz := Decidable.of_not_not hz'
    obtain ⟨k1, k2, _⟩ := rdNum_bytes hby hn
    have HS := Aside0.mk h
    have HY := Aside0.mk hby
    have HU := Aside0.mk k1
    have HN := Aside0.mk hn
    clear h hby hn hr hz' k1
    go_enter Try.func31, Try.ntmps31
    go_upto_region 2 with (first | (go_at_call 32; go_loud ((with_reducible refine (number_ok w0 _ L g b n u HY.out hb HN.out HS.out).mono ?_); rintro e w1 ⟨rfl, hs1⟩; have HS1 := Aside0.mk hs1; clear hs1)))
    obtain ⟨A, c, hc, hC, h1⟩ := Ir.open HS1.out
    have x1 := h1.cell 1 (v := .bool false) rfl
    have f1 := h1.free 1
    have HS2 := Aside0.mk (Ir.mk rfl hc hC (h1.setBlk 1 (.bool true)))
    clear h1 hC
    by_cases hz1 : n < 1
    · have d1 : decide ((n : Int) < 1) = true := by simp; omega
      clear hz hz1
      go_wp2_with (first | (go_at_call 33; go_loud ((with_reducible refine (take_bad w0 _ L g u n HS2.out).mono ?_); rintro e w2 ⟨rfl, hs2⟩; have HS3 := Aside0.mk hs2; clear hs2)))
      go_ret
      exact ⟨_, u, rfl, HU.out, k2, HS3.out⟩
    have d1 : decide ((n : Int) < 1) = false := by simp; omega
    by_cases hz2 : 16 < n
    · have d2 : decide ((16 : Int) < (n : Int)) = true := by simp; omega
      have d3 : decide (16 < n) = true := by simp; omega
      clear hz hz1 hz2
      go_wp2_with (first | (go_at_call 33; go_loud ((with_reducible refine (take_bad w0 _ L g u n HS2.out).mono ?_); rintro e w2 ⟨rfl, hs2⟩; have HS3 := Aside0.mk hs2; clear hs2)))
      go_ret
      exact ⟨_, u, rfl, HU.out, k2, HS3.out⟩
    have d2 : decide ((16 : Int) < (n : Int)) = false := by simp; omega
    have d3 : decide (16 < n) = false := by simp; omega
    have hz3 : (u.length : Int) < (n : Int) := by omega
    clear hz hz1 hz2
    go_wp2_with (first | (go_at_call 33; go_loud ((with_reducible refine (take_short w0 _ L g u n hz3 HS1.out).mono ?_); rintro e w2 ⟨rfl, hs2⟩; have HS3 := Aside0.mk hs2; clear hs2)))
    go_ret
    exact ⟨_, u, rfl, HU.out, k2, HS3.out⟩
end Go.Proofs.Ytohmbmjneainbaa.IrW
