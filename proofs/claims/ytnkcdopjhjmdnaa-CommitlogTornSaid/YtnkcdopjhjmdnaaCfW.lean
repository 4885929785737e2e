/- What the calls of commitlog.fields come to: what is taken, what is read as a number, as eight bytes. -/
import Derived.Test.YtnkcdopjhjmdnaaSl2
import Derived.Test.YtnkcdopjhjmdnaaUvP
import Derived.Test.YtnkcdopjhjmdnaaUvN
import Derived.Test.YtnkcdopjhjmdnaaRuW
import Derived.Test.YtnkcdopjhjmdnaaQBx4
import Derived.Laws.Bits64
namespace Go.Proofs.Ytnkcdopjhjmdnaa.CfW
open Go.RowKit Go.Proofs.YtnkcdopjhjmdnaaW.PrintWords Go.Proofs.YtnkcdopjhjmdnaaW.PrintLast Go.Proofs.YtnkcdopjhjmdnaaW.PrintMore Go.Proofs.Ytnkcdopjhjmdnaa.QB Go.Proofs.Ytnkcdopjhjmdnaa.Sl Go.Proofs.Ytnkcdopjhjmdnaa.Uv Go.Proofs.Ytnkcdopjhjmdnaa.UvP Go.Proofs.Ytnkcdopjhjmdnaa.RuW
set_option linter.unusedVariables false
set_option linter.unusedSimpArgs false

theorem Bytes.drop {b : List Int} (hb : Bytes b) (n : Nat) : Bytes (b.drop n) := fun x hx => hb x (List.mem_of_mem_drop hx)
theorem Bytes.take {b : List Int} (hb : Bytes b) (n : Nat) : Bytes (b.take n) := fun x hx => hb x (List.mem_of_mem_take hx)
/-- Fields at block g: the bytes that are left, and whether all was there so far. -/
def Fl (w0 : World) (g : Nat) (b : List Int) (ok : Bool) : Asn := Ex fun v : Value => All [Blk g #[v, .bool ok] 52, Fact (∃ A c, v = .slice A b.length c ∧ b.length ≤ c ∧ Kd.C (Kd.int .u8) w0 A b.length b)]
theorem Fl.open {w0 w : World} {L : List Asn} {g : Nat} {b : List Int} {ok : Bool} (h : Sat w0 w (Fl w0 g b ok :: L)) :
    ∃ A c, b.length ≤ c ∧ Kd.C (Kd.int .u8) w0 A b.length b ∧ Sat w0 w (Blk g #[.slice A b.length c, .bool ok] 52 :: L) := by
  obtain ⟨v, h1⟩ := h.some_
  have h2 := h1.opened
  obtain ⟨A, c, rfl, hc, hC⟩ := (h2.nth 1 rfl).fact
  exact ⟨A, c, hc, hC, (h2.nth 1 rfl).tail⟩
theorem Fl.mk {w0 w : World} {L : List Asn} {g : Nat} {b : List Int} {ok : Bool} {A : Option Addr} {n c : Nat} (hn : n = b.length) (hc : b.length ≤ c) (hC : Kd.C (Kd.int .u8) w0 A b.length b) (h : Sat w0 w (Blk g #[.slice A n c, .bool ok] 52 :: L)) : Sat w0 w (Fl w0 g b ok :: L) := by
  subst hn
  exact Sat.any _ (Sat.closed ((h.put ⟨A, c, rfl, hc, hC⟩).nth 1 rfl))
theorem take_calls (w0 w : World) (L : List Asn) (g : Nat) (b : List Int) (ok : Bool) (n : Nat) (hb : b.length ≤ 1099511627776) (h : Sat w0 w (Fl w0 g b ok :: L)) :
    Calls Try.prog 23 #[.pointer (some ⟨g, 0, none⟩), .int .i64 n] w fun e w' => ∃ A c, e = .returned (.slice A (b.take n).length c) ∧ (b.take n).length ≤ c ∧ Kd.C (Kd.int .u8) w0 A (b.take n).length (b.take n) ∧ Sat w0 w' (Fl w0 g (b.drop n) (ok && decide (n ≤ b.length)) :: L) := by
  obtain ⟨A, c, hc, hC, h1⟩ := Fl.open h
  have x0 := h1.cell 0 (v := .slice A b.length c) rfl
  have x1 := h1.cell 1 (v := .bool ok) rfl
  have f0 := h1.free 0
  have f1 := h1.free 1
  have HS := Aside0.mk h1
  have HC := Aside0.mk hC
  obtain ⟨i0, hi0, _, hsz, _⟩ := info_parts UvPinfo
  by_cases hn : n ≤ b.length
  · have d1 : decide ((b.length : Int) < (n : Int)) = false := decide_eq_false (by omega)
    have d2 : decide (b.length < n) = false := decide_eq_false (by omega)
    have ct := cut_to (P := Try.prog) 22 5 .i64 Try.underlying22 hi0 A b.length c (n : Int) (by omega) (by omega) hc
    have cf := cut_from (P := Try.prog) 22 5 .i64 Try.underlying22 hi0 1 hsz A b.length c (n : Int) (by omega) (by omega)
    simp only [Int.toNat_natCast] at ct cf
    have hCd := Kd.C_drop (m := n) hC hn hc
    obtain ⟨A2, hA2⟩ : ∃ A2, A2 = (if c = n then A else (A : Option Addr).map (·.add (n * 1))) := ⟨_, rfl⟩
    rw [← hA2] at cf
    have hCd2 : Kd.C (Kd.int .u8) w0 A2 (b.drop n).length (b.drop n) := by rw [hA2]; exact hCd
    have HCD := Aside0.mk hCd2
    have HK := Aside0.mk (show (ok && decide (n ≤ b.length)) = ok by rw [decide_eq_true hn, Bool.and_true])
    have HT := Aside0.mk (show (b.take n).length = n by rw [List.length_take]; omega)
    have HN := Aside0.mk hn
    clear h h1 hC hi0 hsz hA2 hCd hCd2 hn
    go_enter Try.func23, Try.ntmps23
    go_wp2
    go_ret
    have hn := HN.out
    rw [HT.out, HK.out]
    refine ⟨A, c, rfl, by omega, ?_, ?_⟩
    · have := Kd.C_take (m := n) HC.out hn
      rwa [HT.out] at this
    · exact Fl.mk (by rw [List.length_drop]) (by rw [List.length_drop]; omega) HCD.out (HS.out.setBlk 0 (.slice A2 (b.length - n) (c - n)))
  · have d1 : decide ((b.length : Int) < (n : Int)) = true := decide_eq_true (by omega)
    have d2 : decide (b.length < n) = true := decide_eq_true (by omega)
    have ct := cut_to (P := Try.prog) 22 5 .i64 Try.underlying22 hi0 A b.length c (b.length : Int) (by omega) (by omega) hc
    have cf := cut_from (P := Try.prog) 22 5 .i64 Try.underlying22 hi0 1 hsz A b.length c (b.length : Int) (by omega) (by omega)
    simp only [Int.toNat_natCast] at ct cf
    rw [Nat.sub_self] at cf
    obtain ⟨A2, hA2⟩ : ∃ A2, A2 = (if c = b.length then A else (A : Option Addr).map (·.add (b.length * 1))) := ⟨_, rfl⟩
    rw [← hA2] at cf
    have HK := Aside0.mk (show (ok && decide (n ≤ b.length)) = false by rw [decide_eq_false hn, Bool.and_false])
    have HT := Aside0.mk (show b.take n = b from List.take_of_length_le (by omega))
    have HD := Aside0.mk (show b.drop n = [] from List.drop_of_length_le (by omega))
    have HC2 := Aside0.mk (show Kd.C (Kd.int .u8) w0 A2 ([] : List Int).length [] from ⟨rfl, by simp, fun h => by simp at h⟩)
    clear h h1 hC hi0 hsz hA2 hn
    go_enter Try.func23, Try.ntmps23
    go_wp2
    go_ret
    rw [HT.out, HD.out, HK.out]
    refine ⟨A, c, rfl, hc, HC.out, ?_⟩
    exact Fl.mk rfl (Nat.zero_le _) HC2.out ((HS.out.setBlk 1 (.bool false)).setBlk 0 (.slice A2 0 (c - b.length)))
theorem ruv_parts {b : List Int} (hb : Bytes b) : ∃ (v n : Nat), ruv b = ((v : Int), (n : Int)) ∧ n ≤ b.length ∧ v < 18446744073709551616 := by
  rcases ruv_cases hb with ⟨h, _⟩ | ⟨v, t, h1, h2, h3⟩
  · exact ⟨0, 0, h, Nat.zero_le _, by omega⟩
  · exact ⟨v, (uv v).length, h3, by rw [h1, List.length_append]; omega, h2⟩
/-- A number of the fields: it, what is left, whether all was there. -/
def nm (most : Int) (b : List Int) (ok : Bool) : Nat × List Int × Bool := if (ruv b).2 = 0 ∨ most < (ruv b).1 then (0, b, false) else ((ruv b).1.toNat, b.drop (ruv b).2.toNat, ok)
set_option maxHeartbeats 1000000 in
theorem number_calls (w0 w : World) (L : List Asn) (g : Nat) (b : List Int) (ok : Bool) (most : Int) (hm0 : 0 ≤ most) (hm : most ≤ 1099511627776) (hby : Bytes b) (hb : b.length ≤ 1099511627776) (h : Sat w0 w (Fl w0 g b ok :: L)) :
    Calls Try.prog 22 #[.pointer (some ⟨g, 0, none⟩), .int .u64 most] w fun e w' => e = .returned (.int .i64 ((nm most b ok).1 : Nat)) ∧ Sat w0 w' (Fl w0 g (nm most b ok).2.1 (nm most b ok).2.2 :: L) := by
  obtain ⟨v, n, hv, hn, hl⟩ := ruv_parts hby
  have hf := bits_Read_f (k := 30) hby (by omega) (by omega)
  rw [hv] at hf
  obtain ⟨A, c, hc, hC, h1⟩ := Fl.open h
  have x0 := h1.cell 0 (v := .slice A b.length c) rfl
  have x1 := h1.cell 1 (v := .bool ok) rfl
  have f1 := h1.free 1
  have HS := Aside0.mk h1
  have HC := Aside0.mk (Kd.C_below hC h1.below)
  have HC0 := Aside0.mk hC
  have HF := Aside0.mk hf
  by_cases hz : (n : Int) = 0 ∨ most < (v : Int)
  · have HNM := Aside0.mk (show nm most b ok = (0, b, false) by unfold nm; rw [hv]; simp only; rw [if_pos hz])
    clear h h1 hC hf hv
    by_cases hn0 : (n : Int) = 0
    · have d1 : ((n : Int) == 0) = true := by rw [beq_iff_eq]; omega
      clear hz hn0
      go_enter Try.func22, Try.ntmps22
      go_wp2_with (first | (go_at_call 21; go_loud ((with_reducible refine (bits_ReadUvarint.calls 30 A c b (v : Int) (n : Int) _ HC.out hc HF.out).mono ?_); rintro e w1 ⟨rfl, ⟨⟨m, rfl⟩⟩⟩; have HS1 := Aside0.mk (HS.out.drewN m))))
      go_ret
      rw [HNM.out]
      exact ⟨rfl, Fl.mk rfl hc HC0.out (HS1.out.setBlk 1 (.bool false))⟩
    · have d1 : ((n : Int) == 0) = false := by rw [beq_eq_false_iff_ne]; omega
      have d2 : decide (most < (v : Int)) = true := decide_eq_true (by omega)
      clear hz hn0
      go_enter Try.func22, Try.ntmps22
      go_wp2_with (first | (go_at_call 21; go_loud ((with_reducible refine (bits_ReadUvarint.calls 30 A c b (v : Int) (n : Int) _ HC.out hc HF.out).mono ?_); rintro e w1 ⟨rfl, ⟨⟨m, rfl⟩⟩⟩; have HS1 := Aside0.mk (HS.out.drewN m))))
      go_ret
      rw [HNM.out]
      exact ⟨rfl, Fl.mk rfl hc HC0.out (HS1.out.setBlk 1 (.bool false))⟩
  · have HNM := Aside0.mk (show nm most b ok = (v, b.drop n, ok && decide (n ≤ b.length)) by unfold nm; rw [hv]; simp only; rw [if_neg hz, decide_eq_true hn, Bool.and_true, Int.toNat_natCast, Int.toNat_natCast])
    have d1 : ((n : Int) == 0) = false := by rw [beq_eq_false_iff_ne]; omega
    have d2 : decide (most < (v : Int)) = false := decide_eq_false (by omega)
    have e1 : IntKind.i64.wrap (v : Int) = (v : Int) := by rw [IntKind.wrap_i64]; omega
    have HS := Aside0.mk h
    clear h h1 hC hf hv hz
    go_enter Try.func22, Try.ntmps22
    go_wp2_with (first | (go_at_call 21; go_loud ((with_reducible refine (bits_ReadUvarint.calls 30 A c b (v : Int) (n : Int) _ HC.out hc HF.out).mono ?_); rintro e w1 ⟨rfl, ⟨⟨m, hm⟩⟩⟩; have HS1 := Aside0.mk (HS.out.drewN m); rw [← hm] at HS1; clear hm)) | (go_at_call 23; go_loud ((with_reducible refine (take_calls w0 _ L g b ok n hb HS1.out).mono ?_); rintro e w2 ⟨A2, c2, rfl, _, _, hs2⟩; have HS2 := Aside0.mk hs2; clear hs2)))
    go_ret
    rw [HNM.out]
    exact ⟨rfl, HS2.out⟩
/-- The number that bytes are, the first one the greatest. -/
def big (l : List Int) : Nat := l.foldl (fun a b => a * 256 + b.toNat) 0
theorem big_snoc (l : List Int) (x : Int) : big (l ++ [x]) = big l * 256 + x.toNat := by simp [big]
theorem big_foldl : ∀ (l : List Int) (a : Nat), Bytes l → l.foldl (fun a b => a * 256 + b.toNat) a < (a + 1) * 256 ^ l.length
  | [], a, _ => by simp
  | x :: t, a, h => by
    have h1 := h x List.mem_cons_self
    have h2 := big_foldl t (a * 256 + x.toNat) (fun y hy => h y (List.mem_cons_of_mem _ hy))
    rw [List.foldl_cons, List.length_cons, Nat.pow_succ]
    have h3 : (a * 256 + x.toNat + 1) * 256 ^ t.length ≤ (a + 1) * 256 * 256 ^ t.length := Nat.mul_le_mul_right _ (by omega)
    rw [Nat.mul_comm (256 ^ t.length) 256, ← Nat.mul_assoc]
    omega
theorem big_lt {l : List Int} (h : Bytes l) : big l < 256 ^ l.length := by
  have := big_foldl l 0 h
  simpa [big] using this
theorem or_byte' (a x : Nat) (ha : a < 72057594037927936) (hx : x < 256) : Go.bits .or .u64 ((a : Int) * 256) (x : Int) = ((a * 256 + x : Nat) : Int) := by
  rw [show (a : Int) * 256 = ((a * 256 : Nat) : Int) by omega, u64_or_nat _ _ (by omega) (by omega)]
  congr 1
  exact nat_join 8 _ _ (by omega) (by omega)
set_option maxHeartbeats 1000000 in
theorem wide_calls (w0 w : World) (L : List Asn) (g : Nat) (b : List Int) (ok : Bool) (hby : Bytes b) (hb : b.length ≤ 1099511627776) (h : Sat w0 w (Fl w0 g b ok :: L)) :
    Calls Try.prog 24 #[.pointer (some ⟨g, 0, none⟩)] w fun e w' => e = .returned (.int .u64 (big (b.take 8) : Nat)) ∧ Sat w0 w' (Fl w0 g (b.drop 8) (ok && decide (8 ≤ b.length)) :: L) := by
  have ht := take_calls w0 w L g b ok 8 hb h
  rw [show ((8 : Nat) : Int) = 8 from rfl] at ht
  obtain ⟨u, hu⟩ : ∃ u, b.take 8 = u := ⟨_, rfl⟩
  have hbu : Bytes u := by rw [← hu]; exact Bytes.take hby 8
  have hlu : u.length ≤ 8 := by rw [← hu, List.length_take]; omega
  rw [hu] at ht ⊢
  obtain ⟨bd, hbd⟩ : ∃ bd, b.drop 8 = bd := ⟨_, rfl⟩
  obtain ⟨ok2, hok⟩ : ∃ o, (ok && decide (8 ≤ b.length)) = o := ⟨_, rfl⟩
  rw [hbd, hok] at ht ⊢
  have HTK := Aside0.mk ht
  have HBU := Aside0.mk hbu
  clear ht h hby hbu hu hbd hok
  go_enter Try.func24, Try.ntmps24
  go_wp2_with (first | (go_at_call 23; go_loud ((with_reducible refine HTK.out.mono ?_); rintro e w2 ⟨A2, c2, rfl, hc2, hC2, hs2⟩; have HS2 := Aside0.mk hs2; have HC2 := Aside0.mk hC2; clear hs2 hC2)))
  go_loopw [9, 3] (fun v9 v3 wr => ∃ i : Nat, i ≤ u.length ∧ v9 = .int .i64 i ∧ v3 = .int .u64 (big (u.take i) : Nat) ∧ Aside0 (Sat w0 wr (Fl w0 g bd ok2 :: L))) (fun v9 _ _ => u.length - (intOf v9).toNat)
  case atStart => exact ⟨0, Nat.zero_le _, rfl, rfl, HS2⟩
  case round =>
    obtain ⟨i, hi, rfl, rfl, HR⟩ := hrel
    clear HTK HS2
    by_cases hlt : i < u.length
    · have hlti : decide ((i : Int) < (u.length : Int)) = true := decide_eq_true (by omega)
      have hltn : decide (i < u.length) = true := decide_eq_true hlt
      have hk0 : (0 : Int) ≤ (i : Int) := by omega
      have hk1 : (i : Int) < (u.length : Int) := by omega
      obtain ⟨ad, hadd, hx⟩ := Kd.at_int (Kd.C_below HC2.out HR.out.below) (i : Int) hk0 (by omega)
      subst hadd
      have hxr := HBU.out _ (List.getElem_mem hlt)
      obtain ⟨z, hz⟩ : ∃ z : Nat, u[i] = (z : Int) := ⟨u[i].toNat, by omega⟩
      rw [rd_nat hlt, hz, Int.toNat_natCast] at hx
      have hz256 : z < 256 := by omega
      have hbl := big_lt (Bytes.take HBU.out i)
      rw [List.length_take, Nat.min_eq_left hi] at hbl
      have hbm : big (u.take i) < 72057594037927936 := Nat.lt_of_lt_of_le hbl (Nat.le_trans (Nat.pow_le_pow_right (by omega) (show i ≤ 7 by omega)) (by omega))
      have HO := Aside0.mk (or_byte' (big (u.take i)) z hbm hz256)
      have hsn : big (u.take (i + 1)) = big (u.take i) * 256 + z := by rw [List.take_succ_eq_append_getElem hlt, big_snoc, hz, Int.toNat_natCast]
      have HSN := Aside0.mk hsn
      have e1 : IntKind.u64.wrap (z : Int) = (z : Int) := by rw [IntKind.wrap_u64]; omega
      clear hxr hz hbl hsn
      go_wp2
      go_roundw
      case measure => simp [intOf]; omega
      case rel =>
        refine ⟨i + 1, by omega, by go_num, ?_, HR⟩
        rw [HSN.out, ← HO.out]
    · have hie : i = u.length := by omega
      subst hie
      have hlti : decide ((u.length : Int) < (u.length : Int)) = false := by simp
      rw [List.take_length]
      go_wp2
      go_ret
      exact ⟨rfl, HR.out⟩
end Go.Proofs.Ytnkcdopjhjmdnaa.CfW
