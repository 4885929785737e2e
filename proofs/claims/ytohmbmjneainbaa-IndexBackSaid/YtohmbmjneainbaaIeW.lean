/- What the call of index.reader's entry comes to. -/
import Derived.Test.YtohmbmjneainbaaIrW
import Derived.Laws.Bits64
namespace Go.Proofs.Ytohmbmjneainbaa.IrW
open Go.RowKit Go.Proofs.YtohmbmjneainbaaW.PrintWords Go.Proofs.YtohmbmjneainbaaW.PrintLast Go.Proofs.YtohmbmjneainbaaW.PrintMore Go.Proofs.Ytohmbmjneainbaa.QB Go.Proofs.Ytohmbmjneainbaa.Sl Go.Proofs.Ytohmbmjneainbaa.Uv Go.Proofs.Ytohmbmjneainbaa.UvP
set_option linter.unusedVariables false
set_option linter.unusedSimpArgs false

theorem take4_ok (w0 w : World) (L : List Asn) (g : Nat) (b : List Int) (hb : b.length ≤ 1099511627776) (hn : 4 ≤ b.length) (h : Sat w0 w (Ir w0 g b false :: L)) :
    Calls Try.prog 33 #[.pointer (some ⟨g, 0, none⟩), .int .i64 4] w fun e w' => ∃ A c, e = .returned (.slice A 4 c) ∧ 4 ≤ c ∧ Kd.C (Kd.int .u8) w0 A 4 (b.take 4) ∧ Sat w0 w' (Ir w0 g (b.drop 4) false :: L) := take_ok w0 w L g b 4 hb hn h
theorem results_cell1 {P : Program} {fn : Func} {p : Tmp} {ty : TypeId} (h : fn.results = #[.cell p ty]) (tmps : Array Value) (w : World) (g : Nat) (t : TypeId) (cs : Array Value) (fr : Nat × Nat) (d : TypeDesc)
    (hp : tmps.getD p undef = .pointer (some ⟨g, 0, none⟩)) (hg : w.heap[g]? = some (.cells cs t fr))
    (hu : P.underlying ty = some d) (hd : (match d with | .struct _ | .array _ _ => true | _ => false) = true) (hi : (P.info? ty).map (·.size) = some cs.size) :
    (results fn tmps).run P w = .ok (.agg cs) w := by
  have hp' : tmps[p]?.getD undef = .pointer (some ⟨g, 0, none⟩) := by simpa using hp
  simp [results, h, hp', asAddr, run_loadVar_row w g t ty cs fr d hg hu hd hi]
/-- The number that bytes are, the first one the greatest. -/
def big (l : List Int) : Nat := l.foldl (fun a b => a * 256 + b.toNat) 0
theorem big_snoc (l : List Int) (x : Int) : big (l ++ [x]) = big l * 256 + x.toNat := by simp [big]
theorem big_foldl : ∀ (l : List Int) (a : Nat), Bytes l → l.foldl (fun a b => a * 256 + b.toNat) a < (a + 1) * 256 ^ l.length
  | [], a, _ => by simp
  | x :: t, a, h => by
    have h1 := h x List.mem_cons_self
    have h2 := big_foldl t (a * 256 + x.toNat) (fun y hy => h y (List.mem_cons_of_mem _ hy))
    rw [List.foldl_cons, List.length_cons, Nat.pow_succ]
    have h3 : (a * 256 + x.toNat + 1) * 256 ^ t.length ≤ (a + 1) * 256 * 256 ^ t.length := Nat.mul_le_mul_right _ (by omega)
    rw [Nat.mul_comm (256 ^ t.length) 256, ← Nat.mul_assoc]
    omega
theorem big_lt {l : List Int} (h : Bytes l) : big l < 256 ^ l.length := by
  have := big_foldl l 0 h
  simpa [big] using this
/-- An entry that stands first, and what stands behind it. -/
def rdEntry (b : List Int) : Option (S42 × List Int) :=
  (rdName b).bind fun p => (rdNum p.2).bind fun q => (rdNum q.2).bind fun r => if r.2.length < 4 then none else some (⟨p.1, q.1, r.1, big (r.2.take 4)⟩, r.2.drop 4)
theorem rdName_bytes {b : List Int} (hb : Bytes b) {s : ByteArray} {t : List Int} (h : rdName b = some (s, t)) : Bytes t ∧ t.length ≤ b.length := by
  unfold rdName at h
  cases hn : rdNum b with
  | none => rw [hn] at h; cases h
  | some p =>
    obtain ⟨n, u⟩ := p
    obtain ⟨h1, h2, _⟩ := rdNum_bytes hb hn
    rw [hn] at h
    simp only [Option.bind_some] at h
    split at h
    · cases h
    · simp only [Option.some.injEq, Prod.mk.injEq] at h
      obtain ⟨_, rfl⟩ := h
      exact ⟨Bytes.drop h1 _, by rw [List.length_drop]; omega⟩
theorem or_byte (a x : Nat) (ha : a < 16777216) (hx : x < 256) : Go.bits .or .u32 ((a : Int) * 256 % 4294967296) (x : Int) = ((a * 256 + x : Nat) : Int) := by
  have e : (a : Int) * 256 % 4294967296 = ((a * 256 : Nat) : Int) := by omega
  rw [e, u32_or_nat _ _ (by omega) (by omega)]
  congr 1
  exact nat_join 8 _ _ (by omega) (by omega)
theorem or_byte' (a x : Nat) (ha : a < 16777216) (hx : x < 256) : Go.bits .or .u32 ((a : Int) * 256) (x : Int) = ((a * 256 + x : Nat) : Int) := by
  have h := or_byte a x ha hx
  rwa [show (a : Int) * 256 % 4294967296 = (a : Int) * 256 from by omega] at h
set_option maxHeartbeats 4000000 in
set_option maxRecDepth 100000 in
theorem entry_ok (w0 w : World) (L : List Asn) (g : Nat) (b : List Int) (x : S42) (t : List Int) (hby : Bytes b) (hb : b.length ≤ 1099511627776) (hr : rdEntry b = some (x, t)) (h : Sat w0 w (Ir w0 g b false :: L)) :
    Calls Try.prog 26 #[.pointer (some ⟨g, 0, none⟩)] w fun e w' => e = .returned (.agg #[.string x.f0, .int .i64 x.f1, .int .i64 x.f2, .int .u32 x.f3]) ∧ Sat w0 w' (Ir w0 g t false :: L) := by
  unfold rdEntry at hr
  cases h1 : rdName b with
  | none => rw [h1] at hr; cases hr
  | some p1 =>
  obtain ⟨s, t1⟩ := p1
  rw [h1] at hr
  simp only [Option.bind_some] at hr
  cases h2 : rdNum t1 with
  | none => rw [h2] at hr; cases hr
  | some p2 =>
  obtain ⟨n1, t2⟩ := p2
  rw [h2] at hr
  simp only [Option.bind_some] at hr
  cases h3 : rdNum t2 with
  | none => rw [h3] at hr; cases hr
  | some p3 =>
  obtain ⟨n2, t3⟩ := p3
  rw [h3] at hr
  simp only [Option.bind_some] at hr
  by_cases h4 : t3.length < 4
  · rw [if_pos h4] at hr; cases hr
  rw [if_neg h4] at hr
  simp only [Option.some.injEq, Prod.mk.injEq] at hr
  obtain ⟨rfl, rfl⟩ := hr
  obtain ⟨b1, l1⟩ := rdName_bytes hby h1
  obtain ⟨b2, l2, _⟩ := rdNum_bytes b1 h2
  obtain ⟨b3, l3, _⟩ := rdNum_bytes b2 h3
  have q1 : t1.length ≤ 1099511627776 := by omega
  have q2 : t2.length ≤ 1099511627776 := by omega
  have q3 : t3.length ≤ 1099511627776 := by omega
  have q4 : 4 ≤ t3.length := by omega
  have HY := Aside0.mk hby
  have B1 := Aside0.mk b1
  have B2 := Aside0.mk b2
  have B3 := Aside0.mk b3
  have R1 := Aside0.mk h1
  have R2 := Aside0.mk h2
  have R3 := Aside0.mk h3
  have HS := Aside0.mk h
  clear hby b1 b2 b3 h1 h2 h3 h l1 l2 l3 h4
  go_enter Try.func26, Try.ntmps26
  go_upto_region 2 with (fail)
  have h5 := (HS.out.newBlk #[.string ⟨#[]⟩, .int .i64 0, .int .i64 0, .int .u32 0] 42).newBlk #[.string ⟨#[]⟩, .int .i64 0, .int .i64 0, .int .u32 0] 42
  rw [show (w.alloc (.cells #[.string ⟨#[]⟩, .int .i64 0, .int .i64 0, .int .u32 0] 42)).heap.size = w.heap.size + 1 from Array.size_push _] at h5
  have HA := Aside0.mk (h5.nth 2 rfl)
  clear HS h5
  generalize ((w.alloc (.cells #[.string ⟨#[]⟩, .int .i64 0, .int .i64 0, .int .u32 0] 42)).alloc (.cells #[.string ⟨#[]⟩, .int .i64 0, .int .i64 0, .int .u32 0] 42)) = w2 at HA ⊢
  generalize w.heap.size + 1 = gx at HA ⊢
  generalize w.heap.size = gr at HA ⊢
  go_upto_region 3 with (first | (go_at_call 31; go_loud ((with_reducible refine (name_ok w0 _ _ g b s t1 HY.out hb R1.out HA.out).mono ?_); rintro e w3 ⟨rfl, hs⟩; have x0 := (hs.nth 1 rfl).cell 0 (v := .string ⟨#[]⟩) rfl; have f0 := (hs.nth 1 rfl).free 0; have HT := Aside0.mk hs; clear hs)))
  have HN := Aside0.mk (show Sat w0 (w3.setCell ⟨gx, 0, none⟩ (.string s)) (Ir w0 g t1 false :: Blk gx #[.string s, .int .i64 0, .int .i64 0, .int .u32 0] 42 :: Blk gr #[.string ⟨#[]⟩, .int .i64 0, .int .i64 0, .int .u32 0] 42 :: L) from ((HT.out.nth 1 rfl).setBlk 0 (.string s)).nth 1 rfl)
  clear HA HT x0 f0
  generalize w3.setCell ⟨gx, 0, none⟩ (.string s) = w2 at HN ⊢
  have HA := HN
  clear HN
  go_upto_region 4 with (first | (go_at_call 32; go_loud ((with_reducible refine (number_ok w0 _ _ g t1 n1 t2 B1.out q1 R2.out HA.out).mono ?_); rintro e w3 ⟨rfl, hs⟩; have x0 := (hs.nth 1 rfl).cell 1 (v := .int .i64 0) rfl; have f0 := (hs.nth 1 rfl).free 1; have HT := Aside0.mk hs; clear hs)))
  have HN := Aside0.mk (show Sat w0 (w3.setCell ⟨gx, 1, none⟩ (.int .i64 n1)) (Ir w0 g t2 false :: Blk gx #[.string s, .int .i64 n1, .int .i64 0, .int .u32 0] 42 :: Blk gr #[.string ⟨#[]⟩, .int .i64 0, .int .i64 0, .int .u32 0] 42 :: L) from ((HT.out.nth 1 rfl).setBlk 1 (.int .i64 n1)).nth 1 rfl)
  clear HA HT x0 f0
  generalize w3.setCell ⟨gx, 1, none⟩ (.int .i64 n1) = w2 at HN ⊢
  have HA := HN
  clear HN
  go_upto_region 5 with (first | (go_at_call 32; go_loud ((with_reducible refine (number_ok w0 _ _ g t2 n2 t3 B2.out q2 R3.out HA.out).mono ?_); rintro e w3 ⟨rfl, hs⟩; have x0 := (hs.nth 1 rfl).cell 2 (v := .int .i64 0) rfl; have f0 := (hs.nth 1 rfl).free 2; have HT := Aside0.mk hs; clear hs)))
  have HN := Aside0.mk (show Sat w0 (w3.setCell ⟨gx, 2, none⟩ (.int .i64 n2)) (Ir w0 g t3 false :: Blk gx #[.string s, .int .i64 n1, .int .i64 n2, .int .u32 0] 42 :: Blk gr #[.string ⟨#[]⟩, .int .i64 0, .int .i64 0, .int .u32 0] 42 :: L) from ((HT.out.nth 1 rfl).setBlk 2 (.int .i64 n2)).nth 1 rfl)
  clear HA HT x0 f0
  generalize w3.setCell ⟨gx, 2, none⟩ (.int .i64 n2) = w2 at HN ⊢
  have HA := HN
  clear HN
  go_wp2_with (first | (go_at_call 33; go_loud ((with_reducible refine (take4_ok w0 _ _ g t3 q3 q4 HA.out).mono ?_); rintro e w3 ⟨A4, c4, rfl, hc4, hC4, hs⟩; have HT := Aside0.mk (hs.nth 1 rfl); have HC4 := Aside0.mk hC4; clear hs hC4)))
  have hl4 : (t3.take 4).length = 4 := by rw [List.length_take]; omega
  have hb4 : Bytes (t3.take 4) := Bytes.take B3.out 4
  obtain ⟨u, hu⟩ : ∃ u, t3.take 4 = u := ⟨_, rfl⟩
  rw [hu] at HC4 hl4 hb4
  have HB4 := Aside0.mk hb4
  have HL4 := Aside0.mk hl4
  have HU := Aside0.mk hu
  clear HA hu hb4 hl4
  go_loopw [18] (fun v18 wr => ∃ i : Nat, i ≤ 4 ∧ v18 = .int .i64 i ∧ Aside0 (Sat w0 wr (Blk gx #[.string s, .int .i64 n1, .int .i64 n2, .int .u32 (big (u.take i) : Nat)] 42 :: Ir w0 g (t3.drop 4) false :: Blk gr #[.string ⟨#[]⟩, .int .i64 0, .int .i64 0, .int .u32 0] 42 :: L))) (fun v18 _ => 4 - (intOf v18).toNat)
  case atStart => exact ⟨0, by omega, rfl, HT⟩
  case round =>
    obtain ⟨i, hi, rfl, HR⟩ := hrel
    clear HT
    by_cases hlt : i < 4
    · have hlti : decide ((i : Int) < 4) = true := by simp; omega
      have hltn : decide (i < 4) = true := by simp; omega
      have hk0 : (0 : Int) ≤ (i : Int) := by omega
      have hk1 : (i : Int) < 4 := by omega
      have hlu : i < u.length := by rw [HL4.out]; exact hlt
      obtain ⟨ad, hadd, hx⟩ := Kd.at_int (Kd.C_below HC4.out HR.out.below) (i : Int) hk0 hk1
      subst hadd
      have hxr := HB4.out _ (List.getElem_mem hlu)
      obtain ⟨z, hz⟩ : ∃ z : Nat, u[i] = (z : Int) := ⟨u[i].toNat, by omega⟩
      rw [rd_nat hlu, hz, Int.toNat_natCast] at hx
      have hz256 : z < 256 := by omega
      have y3 := HR.out.cell 3 (v := .int .u32 (big (u.take i) : Nat)) rfl
      have g3 := HR.out.free 3
      have hbl := big_lt (Bytes.take HB4.out i)
      rw [List.length_take, Nat.min_eq_left (by omega)] at hbl
      have hbm : big (u.take i) < 16777216 := Nat.lt_of_lt_of_le hbl (Nat.le_trans (Nat.pow_le_pow_right (by omega) (show i ≤ 3 by omega)) (by omega))
      have HO := Aside0.mk (or_byte' (big (u.take i)) z hbm hz256)
      have hsn : big (u.take (i + 1)) = big (u.take i) * 256 + z := by rw [List.take_succ_eq_append_getElem hlu, big_snoc, hz, Int.toNat_natCast]
      have HSN := Aside0.mk hsn
      have e1 : IntKind.u32.wrap (z : Int) = (z : Int) := by rw [IntKind.wrap_u32]; omega
      clear hxr hz hbl hsn
      go_wp2
      go_roundw
      case measure => simp [intOf]; omega
      case rel =>
        refine ⟨i + 1, by omega, by go_num, ⟨?_⟩⟩
        rw [HO.out, ← HSN.out]
        exact HR.out.setBlk 3 _
    · have hie : i = 4 := by omega
      subst hie
      have hlti : decide ((4 : Int) < 4) = false := by decide
      rw [List.take_of_length_le (by rw [HL4.out]; omega)] at HR
      have r0 := HR.out.cell 0 (v := .string s) rfl
      have r1 := HR.out.cell 1 (v := .int .i64 n1) rfl
      have r2 := HR.out.cell 2 (v := .int .i64 n2) rfl
      have r3 := HR.out.cell 3 (v := .int .u32 (big u : Nat)) rfl
      have hg := HR.out.nth 2 rfl
      have k0 := hg.cell 0 (v := .string ⟨#[]⟩) rfl
      have k1 := hg.cell 1 (v := .int .i64 0) rfl
      have k2 := hg.cell 2 (v := .int .i64 0) rfl
      have k3 := hg.cell 3 (v := .int .u32 0) rfl
      have m0 := hg.free 0
      have m1 := hg.free 1
      have m2 := hg.free 2
      have m3 := hg.free 3
      have HG := Aside0.mk hg
      clear hi hlt hg
      go_wp2
      have hz := (((HG.out.setBlk 0 (.string s)).setBlk 1 (.int .i64 n1)).setBlk 2 (.int .i64 n2)).setBlk 3 (.int .u32 (big u : Nat))
      refine bodyPost_ret (results_cell1 rfl _ _ gr 42 #[.string s, .int .i64 n1, .int .i64 n2, .int .u32 (big u : Nat)] (0, 0) _ rfl hz.blk Try.underlying42 rfl (by kernel_rfl)) rfl ?_
      exact ⟨by rw [HU.out], hz.tail.tail⟩

/-! Whatever stands there. -/
theorem name_any (w0 w : World) (L : List Asn) (g : Nat) (b : List Int) (bad : Bool) (hby : Bytes b) (hb : b.length ≤ 1099511627776) (h : Sat w0 w (Ir w0 g b bad :: L)) :
    Calls Try.prog 31 #[.pointer (some ⟨g, 0, none⟩)] w fun e w' => ∃ s u bad', e = .returned (.string s) ∧ Bytes u ∧ u.length ≤ b.length ∧ Sat w0 w' (Ir w0 g u bad' :: L) ∧ (bad' = false → bad = false ∧ rdName b = some (s, u)) := by
  cases bad with
  | true => exact (name_bad w0 w L g b hby hb h).mono fun e w' ⟨s, h1, h2⟩ => ⟨s, b, true, h1, hby, Nat.le_refl _, h2, fun h => by cases h⟩
  | false =>
    by_cases hr : rdName b = none
    · exact (name_none w0 w L g b hby hb hr h).mono fun e w' ⟨s, u, h1, h2, h3, h4⟩ => ⟨s, u, true, h1, h2, h3, h4, fun h => by cases h⟩
    · obtain ⟨⟨s, t⟩, hr⟩ := Option.ne_none_iff_exists'.1 hr
      have hz := rdName_bytes hby hr
      exact (name_ok w0 w L g b s t hby hb hr h).mono fun e w' ⟨h1, h2⟩ => ⟨s, t, false, h1, hz.1, hz.2, h2, fun _ => ⟨rfl, hr⟩⟩
theorem number_any (w0 w : World) (L : List Asn) (g : Nat) (b : List Int) (bad : Bool) (hby : Bytes b) (hb : b.length ≤ 1099511627776) (h : Sat w0 w (Ir w0 g b bad :: L)) :
    Calls Try.prog 32 #[.pointer (some ⟨g, 0, none⟩)] w fun e w' => ∃ (v : Nat) (u : List Int) (bad' : Bool), e = .returned (.int .i64 v) ∧ v ≤ 2147483647 ∧ Bytes u ∧ u.length ≤ b.length ∧ Sat w0 w' (Ir w0 g u bad' :: L) ∧ (bad' = false → bad = false ∧ rdNum b = some (v, u)) := by
  cases bad with
  | true => exact (number_bad w0 w L g b hby hb h).mono fun e w' ⟨v, h0, h1, h2⟩ => ⟨v, b, true, h1, h0, hby, Nat.le_refl _, h2, fun h => by cases h⟩
  | false =>
    by_cases hr : rdNum b = none
    · exact (number_none w0 w L g b hby hb hr false h).mono fun e w' ⟨h1, h4⟩ => ⟨0, b, true, h1, by omega, hby, Nat.le_refl _, h4, fun h => by cases h⟩
    · obtain ⟨⟨v, t⟩, hr⟩ := Option.ne_none_iff_exists'.1 hr
      obtain ⟨z1, z2, z3⟩ := rdNum_bytes hby hr
      exact (number_ok w0 w L g b v t hby hb hr h).mono fun e w' ⟨h1, h2⟩ => ⟨v, t, false, h1, z3, z1, z2, h2, fun _ => ⟨rfl, hr⟩⟩
theorem take4_any (w0 w : World) (L : List Asn) (g : Nat) (b : List Int) (bad : Bool) (hby : Bytes b) (hb : b.length ≤ 1099511627776) (h : Sat w0 w (Ir w0 g b bad :: L)) :
    Calls Try.prog 33 #[.pointer (some ⟨g, 0, none⟩), .int .i64 4] w fun e w' => ∃ A c u t bad', e = .returned (.slice A u.length c) ∧ Kd.C (Kd.int .u8) w0 A u.length u ∧ Bytes u ∧ u.length ≤ 4 ∧ Bytes t ∧ t.length ≤ b.length ∧ Sat w0 w' (Ir w0 g t bad' :: L) ∧ (bad' = false → bad = false ∧ 4 ≤ b.length ∧ u = b.take 4 ∧ t = b.drop 4) := by
  cases bad with
  | true => exact (take_bad w0 w L g b 4 h).mono fun e w' ⟨h1, h2⟩ => ⟨none, 0, [], b, true, h1, Kd.C_nil _ _, fun x hx => (by cases hx), by simp, hby, Nat.le_refl _, h2, fun h => by cases h⟩
  | false =>
    by_cases hl : 4 ≤ b.length
    · refine (take4_ok w0 w L g b hb hl h).mono fun e w' ⟨A, c, h1, h2, h3, h4⟩ => ⟨A, c, b.take 4, b.drop 4, false, ?_, ?_, Bytes.take hby 4, ?_, Bytes.drop hby 4, ?_, h4, fun _ => ⟨rfl, hl, rfl, rfl⟩⟩
      · rw [List.length_take, Nat.min_eq_left hl]; exact h1
      · rw [List.length_take, Nat.min_eq_left hl]; exact h3
      · rw [List.length_take]; omega
      · rw [List.length_drop]; omega
    · exact (take_short w0 w L g b 4 (by omega) h).mono fun e w' ⟨h1, h2⟩ => ⟨none, 0, [], b, true, h1, Kd.C_nil _ _, fun x hx => (by cases hx), by simp, hby, Nat.le_refl _, h2, fun h => by cases h⟩

set_option maxHeartbeats 4000000 in
set_option maxRecDepth 100000 in
theorem entry_any (w0 w : World) (L : List Asn) (g : Nat) (b : List Int) (hby : Bytes b) (hb : b.length ≤ 1099511627776) (h : Sat w0 w (Ir w0 g b false :: L)) :
    Calls Try.prog 26 #[.pointer (some ⟨g, 0, none⟩)] w fun e w' => ∃ (x0 : ByteArray) (x1 x2 x3 : Int) (t : List Int) (bad' : Bool), e = .returned (.agg #[.string x0, .int .i64 x1, .int .i64 x2, .int .u32 x3]) ∧ Bytes t ∧ t.length ≤ b.length ∧ Sat w0 w' (Ir w0 g t bad' :: L) ∧ (bad' = false → rdEntry b ≠ none) := by
  have HY := Aside0.mk hby
  have HS := Aside0.mk h
  clear hby h
  go_enter Try.func26, Try.ntmps26
  go_upto_region 2 with (fail)
  have h5 := (HS.out.newBlk #[.string ⟨#[]⟩, .int .i64 0, .int .i64 0, .int .u32 0] 42).newBlk #[.string ⟨#[]⟩, .int .i64 0, .int .i64 0, .int .u32 0] 42
  rw [show (w.alloc (.cells #[.string ⟨#[]⟩, .int .i64 0, .int .i64 0, .int .u32 0] 42)).heap.size = w.heap.size + 1 from Array.size_push _] at h5
  have HA := Aside0.mk (h5.nth 2 rfl)
  clear HS h5
  generalize ((w.alloc (.cells #[.string ⟨#[]⟩, .int .i64 0, .int .i64 0, .int .u32 0] 42)).alloc (.cells #[.string ⟨#[]⟩, .int .i64 0, .int .i64 0, .int .u32 0] 42)) = w2 at HA ⊢
  generalize w.heap.size + 1 = gx at HA ⊢
  generalize w.heap.size = gr at HA ⊢
  go_upto_region 3 with (first | (go_at_call 31; go_loud ((with_reducible refine (name_any w0 _ _ g b false HY.out hb HA.out).mono ?_); rintro e w3 ⟨s, t1, bad1, rfl, y1, l1, hs, k1⟩; have x0 := (hs.nth 1 rfl).cell 0 (v := .string ⟨#[]⟩) rfl; have f0 := (hs.nth 1 rfl).free 0; have HT := Aside0.mk hs; have Y1 := Aside0.mk y1; have K1 := Aside0.mk k1; clear y1 k1; clear hs)))
  have HN := Aside0.mk (show Sat w0 (w3.setCell ⟨gx, 0, none⟩ (.string s)) (Ir w0 g t1 bad1 :: Blk gx #[.string s, .int .i64 0, .int .i64 0, .int .u32 0] 42 :: Blk gr #[.string ⟨#[]⟩, .int .i64 0, .int .i64 0, .int .u32 0] 42 :: L) from ((HT.out.nth 1 rfl).setBlk 0 (.string s)).nth 1 rfl)
  clear HA HT x0 f0
  generalize w3.setCell ⟨gx, 0, none⟩ (.string s) = w2 at HN ⊢
  have HA := HN
  clear HN
  have q1 : t1.length ≤ 1099511627776 := by omega
  go_upto_region 4 with (first | (go_at_call 32; go_loud ((with_reducible refine (number_any w0 _ _ g t1 bad1 Y1.out q1 HA.out).mono ?_); rintro e w3 ⟨n1, t2, bad2, rfl, _, y2, l2, hs, k2⟩; have x0 := (hs.nth 1 rfl).cell 1 (v := .int .i64 0) rfl; have f0 := (hs.nth 1 rfl).free 1; have HT := Aside0.mk hs; have Y2 := Aside0.mk y2; have K2 := Aside0.mk k2; clear y2 k2; clear hs)))
  have HN := Aside0.mk (show Sat w0 (w3.setCell ⟨gx, 1, none⟩ (.int .i64 n1)) (Ir w0 g t2 bad2 :: Blk gx #[.string s, .int .i64 n1, .int .i64 0, .int .u32 0] 42 :: Blk gr #[.string ⟨#[]⟩, .int .i64 0, .int .i64 0, .int .u32 0] 42 :: L) from ((HT.out.nth 1 rfl).setBlk 1 (.int .i64 n1)).nth 1 rfl)
  clear HA HT x0 f0
  generalize w3.setCell ⟨gx, 1, none⟩ (.int .i64 n1) = w2 at HN ⊢
  have HA := HN
  clear HN
  have q2 : t2.length ≤ 1099511627776 := by omega
  go_upto_region 5 with (first | (go_at_call 32; go_loud ((with_reducible refine (number_any w0 _ _ g t2 bad2 Y2.out q2 HA.out).mono ?_); rintro e w3 ⟨n2, t3, bad3, rfl, _, y3, l3, hs, k3⟩; have x0 := (hs.nth 1 rfl).cell 2 (v := .int .i64 0) rfl; have f0 := (hs.nth 1 rfl).free 2; have HT := Aside0.mk hs; have Y3 := Aside0.mk y3; have K3 := Aside0.mk k3; clear y3 k3; clear hs)))
  have HN := Aside0.mk (show Sat w0 (w3.setCell ⟨gx, 2, none⟩ (.int .i64 n2)) (Ir w0 g t3 bad3 :: Blk gx #[.string s, .int .i64 n1, .int .i64 n2, .int .u32 0] 42 :: Blk gr #[.string ⟨#[]⟩, .int .i64 0, .int .i64 0, .int .u32 0] 42 :: L) from ((HT.out.nth 1 rfl).setBlk 2 (.int .i64 n2)).nth 1 rfl)
  clear HA HT x0 f0
  generalize w3.setCell ⟨gx, 2, none⟩ (.int .i64 n2) = w2 at HN ⊢
  have HA := HN
  clear HN
  have q3 : t3.length ≤ 1099511627776 := by omega
  go_wp2_with (first | (go_at_call 33; go_loud ((with_reducible refine (take4_any w0 _ _ g t3 bad3 Y3.out q3 HA.out).mono ?_); rintro e w3 ⟨A4, c4, u, t4, bad4, rfl, hC4, y4, hu4, yt, lt4, hs, k4⟩; have HT := Aside0.mk (hs.nth 1 rfl); have HC4 := Aside0.mk hC4; have K4 := Aside0.mk k4; have YT := Aside0.mk yt; have HB4 := Aside0.mk y4; clear hs hC4 k4 yt y4)))
  clear HA
  go_loopw [18] (fun v18 wr => ∃ (i : Nat) (z : Int), i ≤ u.length ∧ v18 = .int .i64 i ∧ Aside0 (Sat w0 wr (Blk gx #[.string s, .int .i64 n1, .int .i64 n2, .int .u32 z] 42 :: Ir w0 g t4 bad4 :: Blk gr #[.string ⟨#[]⟩, .int .i64 0, .int .i64 0, .int .u32 0] 42 :: L))) (fun v18 _ => u.length - (intOf v18).toNat)
  case atStart => exact ⟨0, 0, Nat.zero_le _, rfl, HT⟩
  case round =>
    obtain ⟨i, z, hi, rfl, HR⟩ := hrel
    clear HT
    by_cases hlt : i < u.length
    · have hlti : decide ((i : Int) < (u.length : Int)) = true := by simp; omega
      have hltn : decide (i < u.length) = true := by simp; omega
      have hk0 : (0 : Int) ≤ (i : Int) := by omega
      have hk1 : (i : Int) < (u.length : Int) := by omega
      obtain ⟨ad, hadd, hx⟩ := Kd.at_int (Kd.C_below HC4.out HR.out.below) (i : Int) hk0 hk1
      subst hadd
      rw [Int.toNat_natCast] at hx
      generalize rd u (i : Int) = y at hx
      have y3 := HR.out.cell 3 (v := .int .u32 z) rfl
      have g3 := HR.out.free 3
      go_wp2
      go_roundw
      case measure => simp [intOf]; omega
      case rel => exact ⟨i + 1, _, by omega, by go_num, ⟨HR.out.setBlk 3 _⟩⟩
    · have hlti : decide ((i : Int) < (u.length : Int)) = false := by simp; omega
      have hltn : decide (i < u.length) = false := by simp; omega
      have r0 := HR.out.cell 0 (v := .string s) rfl
      have r1 := HR.out.cell 1 (v := .int .i64 n1) rfl
      have r2 := HR.out.cell 2 (v := .int .i64 n2) rfl
      have r3 := HR.out.cell 3 (v := .int .u32 z) rfl
      have hg := HR.out.nth 2 rfl
      have k0 := hg.cell 0 (v := .string ⟨#[]⟩) rfl
      have k1 := hg.cell 1 (v := .int .i64 0) rfl
      have k2 := hg.cell 2 (v := .int .i64 0) rfl
      have k3 := hg.cell 3 (v := .int .u32 0) rfl
      have m0 := hg.free 0
      have m1 := hg.free 1
      have m2 := hg.free 2
      have m3 := hg.free 3
      have HG := Aside0.mk hg
      clear hi hlt hg
      go_wp2
      have hz := (((HG.out.setBlk 0 (.string s)).setBlk 1 (.int .i64 n1)).setBlk 2 (.int .i64 n2)).setBlk 3 (.int .u32 z)
      refine bodyPost_ret (results_cell1 rfl _ _ gr 42 #[.string s, .int .i64 n1, .int .i64 n2, .int .u32 z] (0, 0) _ rfl hz.blk Try.underlying42 rfl (by kernel_rfl)) rfl ?_
      refine ⟨s, n1, n2, z, t4, bad4, rfl, YT.out, by omega, hz.tail.tail, fun hb4 => ?_⟩
      obtain ⟨e3, e4, _, _⟩ := K4.out hb4
      obtain ⟨e2, e5⟩ := K3.out e3
      obtain ⟨e1, e6⟩ := K2.out e2
      obtain ⟨_, e7⟩ := K1.out e1
      unfold rdEntry
      rw [e7]
      simp only [Option.bind_some, e6, e5]
      rw [if_neg (by omega)]
      exact fun h => by cases h
theorem entry_none (w0 w : World) (L : List Asn) (g : Nat) (b : List Int) (hby : Bytes b) (hb : b.length ≤ 1099511627776) (hr : rdEntry b = none) (h : Sat w0 w (Ir w0 g b false :: L)) :
    Calls Try.prog 26 #[.pointer (some ⟨g, 0, none⟩)] w fun e w' => ∃ (x0 : ByteArray) (x1 x2 x3 : Int) (t : List Int), e = .returned (.agg #[.string x0, .int .i64 x1, .int .i64 x2, .int .u32 x3]) ∧ Bytes t ∧ t.length ≤ b.length ∧ Sat w0 w' (Ir w0 g t true :: L) :=
  (entry_any w0 w L g b hby hb h).mono fun e w' ⟨x0, x1, x2, x3, t, bad, h1, h2, h3, h4, h5⟩ => by
    cases bad with
    | true => exact ⟨x0, x1, x2, x3, t, h1, h2, h3, h4⟩
    | false => exact absurd hr (h5 rfl)
end Go.Proofs.Ytohmbmjneainbaa.IrW
