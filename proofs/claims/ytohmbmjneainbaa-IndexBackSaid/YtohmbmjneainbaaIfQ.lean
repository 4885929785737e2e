/- What the calls of index's start and of slices.Clip come to. What the call of index.Find comes to. index.Find as a Lean function laid by hand (a stand-in for the printer), and that the call comes to just that. -/
import Derived.Test.YtohmbmjneainbaaIlW
import Derived.Test.YtohmbmjneainbaaStrLq
import Derived.WalkMore
namespace Go.Proofs.Ytohmbmjneainbaa.IfW
open Go.RowKit Go.Proofs.YtohmbmjneainbaaW.PrintWords Go.Proofs.YtohmbmjneainbaaW.PrintLast Go.Proofs.YtohmbmjneainbaaW.PrintMore Go.Proofs.Ytohmbmjneainbaa.QB Go.Proofs.Ytohmbmjneainbaa.Sl Go.Proofs.Ytohmbmjneainbaa.Uv Go.Proofs.Ytohmbmjneainbaa.UvP Go.Proofs.Ytohmbmjneainbaa.IxP Go.Proofs.Ytohmbmjneainbaa.IrW
attribute [local go_sem high] Go.Proofs.Ytohmbmjneainbaa.StrLq.str_leq Go.Proofs.Ytohmbmjneainbaa.StrLq.str_gtr
set_option linter.unusedVariables false
set_option linter.unusedSimpArgs false

/-- Where one begins to look: on from 'at', of a summary. -/
def stGo (L : Nat) (id : ByteArray) : Nat → Int → List Int → Int
  | 0, _, _ => 0
  | n + 1, at_, b => if b = [] then at_ else
      match rdName b with
      | none => -1
      | some (s, t) =>
        match rdNum t with
        | none => -1
        | some (v, u) => if L < v then -1 else stGo L id n (if Op.bytesLess id.toList s.toList = true then at_ else (v : Int)) u
def stF (L : Nat) (id : ByteArray) (b : List Int) : Int := stGo L id (b.length + 1) (-1) b
theorem stGo_more (L : Nat) (id : ByteArray) : ∀ (n m : Nat) (a : Int) (b : List Int), Bytes b → b.length < n → b.length < m → stGo L id n a b = stGo L id m a b := by
  intro n
  induction n with
  | zero => intro m a b _ h; omega
  | succ n ih =>
    intro m a b hb h1 h2
    obtain ⟨m, rfl⟩ : ∃ j, m = j + 1 := ⟨m - 1, by omega⟩
    simp only [stGo]
    by_cases hz : b = []
    · rw [if_pos hz, if_pos hz]
    · rw [if_neg hz, if_neg hz]
      cases h3 : rdName b with
      | none => rfl
      | some p =>
        obtain ⟨s, t⟩ := p
        obtain ⟨hb3, hl3⟩ := rdName_bytes hb h3
        simp only
        cases h4 : rdNum t with
        | none => rfl
        | some q =>
          obtain ⟨v, u⟩ := q
          have hl4 := rdNum_less hb3 h4
          have hb4 := (rdNum_bytes hb3 h4).1
          simp only
          split
          · rfl
          · exact ih m _ u hb4 (by omega) (by omega)
theorem clip_run (A : Option Addr) (n c : Nat) (hc : n ≤ c) (W : World) : (Instr.slice 24 (.slice A n c) none (some (.int .i64 n)) (some (.int .i64 n))).run Try.prog W = .ok (.slice A n n) W := by
  obtain ⟨i0, hi0, _, hsz, _⟩ := info_parts infoB
  have hel : Try.prog.elem 24 = 5 := by simp [Program.elem, Try.underlying24]
  have hu : Try.prog.underlying 24 = some (.slice (Try.prog.elem 24)) := by rw [hel]; exact Try.underlying24
  have ha : (A.map fun x => x.add 0) = A := by cases A <;> simp [Addr.add]
  rw [run_slice_hm W 24 A n c hu .i64 .i64 n n (by omega) (by omega) (by omega), hel]
  simp [sizeOf, typeInfo, hi0, hsz, sliced, Result.andThen, ha]
theorem clip_calls (w : World) (A : Option Addr) (n c : Nat) (hc : n ≤ c) : Calls Try.prog 29 #[.slice A n c] w fun e w' => e = .returned (.slice A n n) ∧ w' = w := by
  have x1 := clip_run A n c hc
  go_enter Try.func29, Try.ntmps29
  go_wp2
  go_ret
  exact ⟨rfl, rfl⟩
set_option maxHeartbeats 4000000 in
set_option maxRecDepth 100000 in
theorem start_calls (w : World) (A0 : Option Addr) (c0 L : Nat) (hL : L ≤ 1099511627776) (A : Option Addr) (c : Nat) (b : List Int) (id : ByteArray) (hC : Kd.C (Kd.int .u8) w A b.length b) (hc : b.length ≤ c) (hby : Bytes b) (hb : b.length ≤ 1000000) :
    Calls Try.prog 28 #[.slice A0 L c0, .slice A b.length c, .string id] w fun e w' => e = .returned (.int .i64 (stF L id b)) ∧ Below w.heap.size w w' := by
  have HY := Aside0.mk hby
  have HC := Aside0.mk hC
  clear hby hC
  have HE0 := Aside0.mk (show stF L id b = stGo L id (b.length + 1) (-1) b from rfl)
  have HR1 := Aside0.mk (Ir.mk rfl hc HC.out ((Sat.start w).newBlk #[.slice A b.length c, .bool false] 55))
  go_enter Try.func28, Try.ntmps28
  go_wp2
  go_loopg [7] b.length (fun kq v7 wr => ∃ (a : Int) (t : List Int), v7 = .int .i64 a ∧ Aside0 (t.length ≤ b.length ∧ t.length = kq) ∧ Aside0 (Bytes t) ∧ Aside0 (stF L id b = stGo L id (t.length + 1) a t) ∧ Aside0 (Sat w wr (Ir w w.heap.size t false :: [])))
  case atStart => exact ⟨-1, b, rfl, ⟨Nat.le_refl _, rfl⟩, HY, HE0, HR1⟩
  case round =>
    obtain ⟨a, t, rfl, HN, HT, HE, HL⟩ := hrel
    clear HR1 HE0
    have htb : t.length ≤ 1099511627776 := by have := HN.out; omega
    obtain ⟨At, ct, hct, hCt, h1⟩ := Ir.open HL.out
    have x0 := h1.cell 0 (v := .slice At t.length ct) rfl
    clear h1 hCt
    by_cases hz : t = []
    · have d1 : decide ((0 : Int) < (t.length : Int)) = false := by rw [hz]; rfl
      have d2 : decide (0 < t.length) = false := by rw [hz]; rfl
      have HA := Aside0.mk (show stF L id b = a by rw [HE.out, hz]; simp [stGo])
      clear hz
      go_wp2
      go_ret
      exact ⟨by rw [HA.out]; rfl, HL.out.below⟩
    · have hpos : 0 < t.length := List.length_pos_iff.2 hz
      have d1 : decide ((0 : Int) < (t.length : Int)) = true := by simp; omega
      have d2 : decide (0 < t.length) = true := by simp; omega
      by_cases hn : rdName t = none
      · have HA := Aside0.mk (show stF L id b = -1 by rw [HE.out]; simp only [stGo]; rw [if_neg hz, hn])
        have HN1 := Aside0.mk hn
        clear hz hn hpos
        go_wp2_with (first | (go_at_call 31; go_loud ((with_reducible refine (name_none w wr _ _ t HT.out htb HN1.out HL.out).mono ?_); rintro e w1 ⟨s1, u1, rfl, hu1, hu2, hs⟩; have HU := Aside0.mk hu1; have hu3 : u1.length ≤ 1099511627776 := Nat.le_trans hu2 htb; have H1 := Aside0.mk hs; clear hs hu1 hu2)) | (go_at_call 32; go_loud ((with_reducible refine (number_bad w w1 _ _ u1 HU.out hu3 H1.out).mono ?_); rintro e w2 ⟨v2, hv2, rfl, hs⟩; obtain ⟨A5, c5, hc5, hC5, h5⟩ := Ir.open hs; have xb := h5.cell 1 (v := .bool true) rfl; have HH := Aside0.mk h5; clear hs h5 hC5)))
        go_ret
        exact ⟨by rw [HA.out]; rfl, HH.out.below⟩
      · obtain ⟨⟨s, t1⟩, hn⟩ := Option.ne_none_iff_exists'.1 hn
        obtain ⟨hb1, hl1⟩ := rdName_bytes HT.out hn
        have ht1 : t1.length ≤ 1099511627776 := by omega
        have HN1 := Aside0.mk hn
        have HB1 := Aside0.mk hb1
        by_cases hm : rdNum t1 = none
        · have HA := Aside0.mk (show stF L id b = -1 by rw [HE.out]; simp only [stGo]; rw [if_neg hz, hn]; simp only; rw [hm])
          have HM1 := Aside0.mk hm
          clear hz hn hpos hm hb1 hl1
          go_wp2_with (first | (go_at_call 31; go_loud ((with_reducible refine (name_ok w wr _ _ t s t1 HT.out htb HN1.out HL.out).mono ?_); rintro e w1 ⟨rfl, hs⟩; have H1 := Aside0.mk hs; clear hs)) | (go_at_call 32; go_loud ((with_reducible refine (number_none w w1 _ _ t1 HB1.out ht1 HM1.out false H1.out).mono ?_); rintro e w2 ⟨rfl, hs⟩; obtain ⟨A5, c5, hc5, hC5, h5⟩ := Ir.open hs; have xb := h5.cell 1 (v := .bool true) rfl; have HH := Aside0.mk h5; clear hs h5 hC5)))
          go_ret
          exact ⟨by rw [HA.out]; rfl, HH.out.below⟩
        · obtain ⟨⟨v, u⟩, hm⟩ := Option.ne_none_iff_exists'.1 hm
          have hlu := rdNum_less hb1 hm
          obtain ⟨hbu, _, hvm⟩ := rdNum_bytes hb1 hm
          have HM1 := Aside0.mk hm
          have HBU := Aside0.mk hbu
          have e1 : stF L id b = if L < v then -1 else stGo L id t.length (if Op.bytesLess id.toList s.toList = true then a else (v : Int)) u := by
            rw [HE.out]; simp only [stGo]; rw [if_neg hz, hn]; simp only; rw [hm]
          by_cases hv : L < v
          · have k1 : decide ((L : Int) < (v : Int)) = true := by simp; omega
            have k2 : decide (L < v) = true := by simp; omega
            have HA := Aside0.mk (show stF L id b = -1 by rw [e1, if_pos hv])
            clear hz hn hpos hm hb1 hl1 e1 hlu hbu hvm hv
            go_wp2_with (first | (go_at_call 31; go_loud ((with_reducible refine (name_ok w wr _ _ t s t1 HT.out htb HN1.out HL.out).mono ?_); rintro e w1 ⟨rfl, hs⟩; have H1 := Aside0.mk hs; clear hs)) | (go_at_call 32; go_loud ((with_reducible refine (number_ok w w1 _ _ t1 v u HB1.out ht1 HM1.out H1.out).mono ?_); rintro e w2 ⟨rfl, hs⟩; obtain ⟨A5, c5, hc5, hC5, h5⟩ := Ir.open hs; have xb := h5.cell 1 (v := .bool false) rfl; have HH := Aside0.mk h5; clear hs h5 hC5)))
            go_ret
            exact ⟨by rw [HA.out]; rfl, HH.out.below⟩
          · have k1 : decide ((L : Int) < (v : Int)) = false := by simp; omega
            have k2 : decide (L < v) = false := by simp; omega
            rw [if_neg hv, stGo_more L id t.length (u.length + 1) _ u hbu (by omega) (by omega)] at e1
            have HA := Aside0.mk e1
            have hlt : u.length < t.length := by omega
            clear hz hn hpos hm hb1 hl1 e1 hlu hbu hvm hv
            by_cases hls : Op.bytesLess id.toList s.toList = true
            · have k3 : (!Op.bytesLess id.toList s.toList) = false := by rw [hls]; rfl
              have HA2 := Aside0.mk (show stF L id b = stGo L id (u.length + 1) a u by rw [HA.out, if_pos hls])
              clear HA
              go_wp2_with (first | (go_at_call 31; go_loud ((with_reducible refine (name_ok w wr _ _ t s t1 HT.out htb HN1.out HL.out).mono ?_); rintro e w1 ⟨rfl, hs⟩; have H1 := Aside0.mk hs; clear hs)) | (go_at_call 32; go_loud ((with_reducible refine (number_ok w w1 _ _ t1 v u HB1.out ht1 HM1.out H1.out).mono ?_); rintro e w2 ⟨rfl, hs⟩; obtain ⟨A5, c5, hc5, hC5, h5⟩ := Ir.open hs; have xb := h5.cell 1 (v := .bool false) rfl; have HH := Aside0.mk hs; clear hs h5 hC5)))
              go_roundg u.length
              case measure => have := HN.out.2; omega
              case rel => exact ⟨a, u, rfl, ⟨by have := HN.out.1; omega, rfl⟩, HBU, HA2, HH⟩
            · have k4 : Op.bytesLess id.toList s.toList = false := by simpa using hls
              have k3 : (!Op.bytesLess id.toList s.toList) = true := by rw [k4]; rfl
              have HA2 := Aside0.mk (show stF L id b = stGo L id (u.length + 1) (v : Int) u by rw [HA.out, if_neg hls])
              clear HA hls
              go_wp2_with (first | (go_at_call 31; go_loud ((with_reducible refine (name_ok w wr _ _ t s t1 HT.out htb HN1.out HL.out).mono ?_); rintro e w1 ⟨rfl, hs⟩; have H1 := Aside0.mk hs; clear hs)) | (go_at_call 32; go_loud ((with_reducible refine (number_ok w w1 _ _ t1 v u HB1.out ht1 HM1.out H1.out).mono ?_); rintro e w2 ⟨rfl, hs⟩; obtain ⟨A5, c5, hc5, hC5, h5⟩ := Ir.open hs; have xb := h5.cell 1 (v := .bool false) rfl; have HH := Aside0.mk hs; clear hs h5 hC5)))
              go_roundg u.length
              case measure => have := HN.out.2; omega
              case rel => exact ⟨(v : Int), u, rfl, ⟨by have := HN.out.1; omega, rfl⟩, HBU, HA2, HH⟩
end Go.Proofs.Ytohmbmjneainbaa.IfW
namespace Go.Proofs.Ytohmbmjneainbaa.IfW
open Go.RowKit Go.Proofs.YtohmbmjneainbaaW.PrintWords Go.Proofs.YtohmbmjneainbaaW.PrintLast Go.Proofs.YtohmbmjneainbaaW.PrintMore Go.Proofs.Ytohmbmjneainbaa.QB Go.Proofs.Ytohmbmjneainbaa.Sl Go.Proofs.Ytohmbmjneainbaa.Uv Go.Proofs.Ytohmbmjneainbaa.UvP Go.Proofs.Ytohmbmjneainbaa.IxP Go.Proofs.Ytohmbmjneainbaa.IrW
attribute [local go_sem high] Go.Proofs.Ytohmbmjneainbaa.StrLq.str_leq Go.Proofs.Ytohmbmjneainbaa.StrLq.str_gtr
set_option linter.unusedVariables false
set_option linter.unusedSimpArgs false

def zeroE : S42 := ⟨⟨#[]⟩, 0, 0, 0⟩
/-- What is found among the next entries, and how many were looked at. -/
def fdGo (id : ByteArray) : Nat → Int → List Int → S42 × Int × Bool
  | 0, n, _ => (zeroE, n, false)
  | k + 1, n, b => if b = [] then (zeroE, n, false) else
      match rdEntry b with
      | none => (zeroE, n, false)
      | some (x, t) => if x.f0.toList = id.toList then (x, n + 1, true) else if Op.bytesLess id.toList x.f0.toList = true then (zeroE, n + 1, false) else fdGo id k (n + 1) t
def fdF (ix sm : List Int) (id : ByteArray) : S42 × Int × Bool :=
  if stF ix.length id sm < 0 then (zeroE, 0, false) else fdGo id 4 0 (ix.drop (stF ix.length id sm).toNat)
theorem stGo_range (L : Nat) (id : ByteArray) : ∀ (n : Nat) (a : Int) (b : List Int), -1 ≤ a → a ≤ (L : Int) → -1 ≤ stGo L id n a b ∧ stGo L id n a b ≤ (L : Int) := by
  intro n
  induction n with
  | zero => intro a b h1 h2; simp only [stGo]; omega
  | succ n ih =>
    intro a b h1 h2
    simp only [stGo]
    split
    · exact ⟨h1, h2⟩
    · split
      · omega
      · split
        · omega
        · split
          · omega
          · rename_i v u _ hv
            refine ih _ _ ?_ ?_
            · split <;> omega
            · split <;> omega
theorem stF_range (L : Nat) (id : ByteArray) (b : List Int) : -1 ≤ stF L id b ∧ stF L id b ≤ (L : Int) := stGo_range L id _ _ _ (by omega) (by omega)
theorem Sat.setRow {w0 w : World} {L : List Asn} {g : Nat} {cs : Array Value} {t : TypeId} (h : Sat w0 w (Blk g cs t :: L)) (cs' : Array Value) : Sat w0 (w.setRow g cs') (Blk g cs' t :: L) := by
  have hge := h.ge
  have hlt := h.lt
  have hb := h.below
  refine h.turn (fun G hG hGB => ⟨fun k => k = g, ⟨rfl, setRow_heap w g cs cs' t (0, 0) hG.2⟩, hb.trans ⟨rfl, rfl, rfl, by simp, fun k hk => setRow_other w g k cs' (by omega)⟩, by simp, fun k _ hn => setRow_other w g k cs' (fun e => hn (by rw [e]; exact hG.1)), fun k hk => by subst hk; exact ⟨.inl hG.1, by simpa using hlt⟩⟩)
set_option maxHeartbeats 4000000 in
set_option maxRecDepth 100000 in
theorem find_calls (w : World) (A0 : Option Addr) (c0 : Nat) (ix : List Int) (A1 : Option Addr) (c1 : Nat) (sm : List Int) (id : ByteArray)
    (hC0 : Kd.C (Kd.int .u8) w A0 ix.length ix) (hc0 : ix.length ≤ c0) (hby0 : Bytes ix) (hb0 : ix.length ≤ 1000000)
    (hC1 : Kd.C (Kd.int .u8) w A1 sm.length sm) (hc1 : sm.length ≤ c1) (hby1 : Bytes sm) (hb1 : sm.length ≤ 1000000) :
    Calls Try.prog 17 #[.slice A0 ix.length c0, .slice A1 sm.length c1, .string id] w fun e w' => e = .returned (.tuple #[.agg #[.string (fdF ix sm id).1.f0, .int .i64 (fdF ix sm id).1.f1, .int .i64 (fdF ix sm id).1.f2, .int .u32 (fdF ix sm id).1.f3], .int .i64 (fdF ix sm id).2.1, .bool (fdF ix sm id).2.2]) ∧ Below w.heap.size w w' := by
  have HY1 := Aside0.mk hby1
  have HC1 := Aside0.mk hC1
  have hL : ix.length ≤ 1099511627776 := by omega
  have HS0 := Aside0.mk ((Sat.start w).newBlk #[.string ⟨#[]⟩, .int .i64 0, .int .i64 0, .int .u32 0] 42)
  obtain ⟨hr1, hr2⟩ := stF_range ix.length id sm
  obtain ⟨a, ha⟩ : ∃ a, stF ix.length id sm = a := ⟨_, rfl⟩
  rw [ha] at hr1 hr2
  have HA := Aside0.mk ha
  clear ha hby1 hC1
  by_cases hneg : a < 0
  · have d1 : decide (a < 0) = true := by simpa using hneg
    have HF := Aside0.mk (show fdF ix sm id = (zeroE, 0, false) by unfold fdF; rw [HA.out, if_pos hneg])
    clear hneg hC0 hby0
    go_enter Try.func17, Try.ntmps17
    go_wp2
    go_step3
    go_wp2_with (first | (go_at_call 28; go_loud ((with_reducible refine (start_calls _ A0 c0 ix.length hL A1 c1 sm id (Kd.C_alloc HC1.out _) hc1 HY1.out hb1).mono ?_); rintro e w2 ⟨rfl, hbe⟩; rw [HA.out]; have HS1 := Aside0.mk (HS0.out.step hbe); clear hbe)) | ((with_reducible refine gate_store (p := 6) rfl ?_); go_loud (refine wpList_store_row rfl 42 (.tmp 6) (.tmp 19) rfl w.heap.size #[.string ⟨#[]⟩, .int .i64 0, .int .i64 0, .int .u32 0] rfl rfl 42 _ HS1.out.blk (by kernel_rfl) rfl (by simp [Value.oneCell']) ?_; have HZ := Aside0.mk (Sat.setRow HS1.out #[.string ⟨#[]⟩, .int .i64 0, .int .i64 0, .int .u32 0]))))
    rw [Exit.noGoto_ret]; refine bodyPost_ret (results_ctt rfl _ _ w.heap.size 42 #[.string ⟨#[]⟩, .int .i64 0, .int .i64 0, .int .u32 0] (0, 0) _ rfl HZ.out.blk Try.underlying42 rfl (by kernel_rfl)) rfl ?_
    exact ⟨by rw [HF.out]; rfl, HZ.out.below⟩
  · have d1 : decide (a < 0) = false := by simpa using hneg
    have hC2 := Kd.C_drop (m := a.toNat) hC0 (by omega) hc0
    have hB2 := Bytes.drop hby0 a.toNat
    have hl2 : (ix.drop a.toNat).length = ix.length - a.toNat := List.length_drop
    obtain ⟨i0, hi0, _, hsz, _⟩ := info_parts infoB
    have cf := cut_from (P := Try.prog) 24 5 .i64 Try.underlying24 hi0 1 hsz A0 ix.length c0 a (by omega) (by omega)
    obtain ⟨A2, hA2⟩ : ∃ A2, A2 = (if c0 = a.toNat then A0 else (A0 : Option Addr).map (·.add (a.toNat * 1))) := ⟨_, rfl⟩
    have hC3 : Kd.C (Kd.int .u8) w A2 (ix.drop a.toNat).length (ix.drop a.toNat) := by rw [hA2]; exact hC2
    have hF0 : fdF ix sm id = fdGo id 4 0 (ix.drop a.toNat) := by unfold fdF; rw [HA.out, if_neg hneg]
    have hcc : ix.length - a.toNat ≤ c0 - a.toNat := by omega
    have hbl : (ix.drop a.toNat).length ≤ 1000000 := by omega
    rw [← hA2] at cf
    rw [← hl2] at cf hcc
    obtain ⟨b, hb⟩ : ∃ b, ix.drop a.toNat = b := ⟨_, rfl⟩
    obtain ⟨c2, hc2⟩ : ∃ c2, c0 - a.toNat = c2 := ⟨_, rfl⟩
    rw [hb] at hC3 hB2 hF0 cf hcc hbl
    rw [hc2] at cf hcc
    have HC3 := Aside0.mk hC3
    have HB2 := Aside0.mk hB2
    have HF0 := Aside0.mk hF0
    clear hC0 hby0 hi0 hsz hA2 hC2 hl2 hC3 hB2 hF0 hb hc2 hneg
    go_enter Try.func17, Try.ntmps17
    go_wp2
    go_step3
    go_wp2_with (first | (go_at_call 28; go_loud ((with_reducible refine (start_calls _ A0 c0 ix.length hL A1 c1 sm id (Kd.C_alloc HC1.out _) hc1 HY1.out hb1).mono ?_); rintro e w2 ⟨rfl, hbe⟩; rw [HA.out]; have HS1 := Aside0.mk (HS0.out.step hbe); clear hbe)) | (go_at_call 29; go_loud ((with_reducible refine (clip_calls _ A2 b.length c2 hcc).mono ?_); rintro e w3 ⟨rfl, rfl⟩)))
    go_step3
    go_wp2
    have HR0 := Aside0.mk (Ir.mk rfl (Nat.le_refl _) HC3.out (HS1.out.newBlk #[.slice A2 b.length b.length, .bool false] 55))
    go_loopg [11] 4 (fun kq v11 wr => ∃ (i : Nat) (t : List Int), v11 = .int .i64 i ∧ Aside0 (i + kq = 4) ∧ Aside0 (t.length ≤ 1000000) ∧ Aside0 (Bytes t) ∧ Aside0 (fdF ix sm id = fdGo id kq i t) ∧ Aside0 (Sat w wr (Ir w w3.heap.size t false :: Blk w.heap.size #[.string ⟨#[]⟩, .int .i64 0, .int .i64 0, .int .u32 0] 42 :: [])))
    case atStart => exact ⟨0, b, rfl, ⟨rfl⟩, ⟨hbl⟩, HB2, HF0, HR0⟩
    case round =>
      obtain ⟨i, t, rfl, HI, HN, HT, HE, HL⟩ := hrel
      clear HR0 HF0
      have htb : t.length ≤ 1099511627776 := by have := HN.out; omega
      obtain ⟨At, ct, hct, hCt, h1⟩ := Ir.open HL.out
      have x0 := h1.cell 0 (v := .slice At t.length ct) rfl
      clear h1 hCt
      match gk, HI, HE with
      | 0, HI, HE =>
        have hi : i = 4 := by have := HI.out; omega
        have k1 : decide ((i : Int) < 4) = false := by simp; omega
        have k2 : decide (i < 4) = false := by simp; omega
        have HF := Aside0.mk (show fdF ix sm id = (zeroE, (i : Int), false) from HE.out)
        have HL2 := Aside0.mk HL.out.tail
        clear hi
        go_wp2_with (first | ((with_reducible refine gate_store (p := 6) rfl ?_); go_loud (refine wpList_store_row rfl 42 (.tmp 6) (.tmp 50) rfl w.heap.size #[.string ⟨#[]⟩, .int .i64 0, .int .i64 0, .int .u32 0] rfl rfl 42 _ HL2.out.blk (by kernel_rfl) rfl (by simp [Value.oneCell']) ?_; have HZ := Aside0.mk (Sat.setRow HL2.out #[.string ⟨#[]⟩, .int .i64 0, .int .i64 0, .int .u32 0]))))
        rw [Exit.noGoto_ret]; refine bodyPost_ret (results_ctt rfl _ _ w.heap.size 42 #[.string ⟨#[]⟩, .int .i64 0, .int .i64 0, .int .u32 0] (0, 0) _ rfl HZ.out.blk Try.underlying42 rfl (by kernel_rfl)) rfl ?_
        exact ⟨by rw [HF.out]; rfl, HZ.out.below⟩
      | k + 1, HI, HE =>
        have hi : i < 4 := by have := HI.out; omega
        have k1 : decide ((i : Int) < 4) = true := by simp; omega
        have k2 : decide (i < 4) = true := by simp; omega
        by_cases hz : t = []
        · have d2 : decide ((0 : Int) < (t.length : Int)) = false := by rw [hz]; rfl
          have d3 : decide (0 < t.length) = false := by rw [hz]; rfl
          have HF := Aside0.mk (show fdF ix sm id = (zeroE, (i : Int), false) by rw [HE.out]; simp only [fdGo]; rw [if_pos hz])
          have HL2 := Aside0.mk HL.out.tail
          clear hz hi
          go_wp2_with (first | ((with_reducible refine gate_store (p := 6) rfl ?_); go_loud (refine wpList_store_row rfl 42 (.tmp 6) (.tmp 50) rfl w.heap.size #[.string ⟨#[]⟩, .int .i64 0, .int .i64 0, .int .u32 0] rfl rfl 42 _ HL2.out.blk (by kernel_rfl) rfl (by simp [Value.oneCell']) ?_; have HZ := Aside0.mk (Sat.setRow HL2.out #[.string ⟨#[]⟩, .int .i64 0, .int .i64 0, .int .u32 0]))))
          rw [Exit.noGoto_ret]; refine bodyPost_ret (results_ctt rfl _ _ w.heap.size 42 #[.string ⟨#[]⟩, .int .i64 0, .int .i64 0, .int .u32 0] (0, 0) _ rfl HZ.out.blk Try.underlying42 rfl (by kernel_rfl)) rfl ?_
          exact ⟨by rw [HF.out]; rfl, HZ.out.below⟩
        · have hpos : 0 < t.length := List.length_pos_iff.2 hz
          have d2 : decide ((0 : Int) < (t.length : Int)) = true := by simp; omega
          have d3 : decide (0 < t.length) = true := by simp; omega
          by_cases he : rdEntry t = none
          · have HF := Aside0.mk (show fdF ix sm id = (zeroE, (i : Int), false) by rw [HE.out]; simp only [fdGo]; rw [if_neg hz, he])
            have HRE := Aside0.mk he
            clear he hz hpos hi
            go_wp2_with (first | (go_at_call 26; go_loud ((with_reducible refine (entry_none w wr _ _ t HT.out htb HRE.out HL.out).mono ?_); rintro e w1 ⟨y0, y1, y2, y3, u, rfl, _, _, hs⟩; obtain ⟨A5, c5, hc5, hC5, h5⟩ := Ir.open hs; have h6 := h5.newBlk #[.string y0, .int .i64 y1, .int .i64 y2, .int .u32 y3] 42; have xb := (h6.nth 1 rfl).cell 1 (v := .bool true) rfl; have HL2 := Aside0.mk h6.tail.tail; clear hs h5 h6 hC5)) | ((with_reducible refine gate_store (p := 6) rfl ?_); go_loud (refine wpList_store_row rfl 42 (.tmp 6) (.tmp 50) rfl w.heap.size #[.string ⟨#[]⟩, .int .i64 0, .int .i64 0, .int .u32 0] rfl rfl 42 _ HL2.out.blk (by kernel_rfl) rfl (by simp [Value.oneCell']) ?_; have HZ := Aside0.mk (Sat.setRow HL2.out #[.string ⟨#[]⟩, .int .i64 0, .int .i64 0, .int .u32 0]))))
            rw [Exit.noGoto_ret]; refine bodyPost_ret (results_ctt rfl _ _ w.heap.size 42 #[.string ⟨#[]⟩, .int .i64 0, .int .i64 0, .int .u32 0] (0, 0) _ rfl HZ.out.blk Try.underlying42 rfl (by kernel_rfl)) rfl ?_
            exact ⟨by rw [HF.out]; rfl, HZ.out.below⟩
          · obtain ⟨⟨x, t'⟩, he⟩ := Option.ne_none_iff_exists'.1 he
            obtain ⟨hby', hless⟩ := rdEntry_less HT.out he
            have HRE := Aside0.mk he
            have HT2 := Aside0.mk hby'
            have e1 : fdF ix sm id = if x.f0.toList = id.toList then (x, (i : Int) + 1, true) else if Op.bytesLess id.toList x.f0.toList = true then (zeroE, (i : Int) + 1, false) else fdGo id k ((i : Int) + 1) t' := by
              rw [HE.out]; simp only [fdGo]; rw [if_neg hz, he]
            have HE1 := Aside0.mk e1
            have HLS := Aside0.mk hless
            have hw : wrap64 ((i : Int) + 1) = ((i + 1 : Nat) : Int) := by unfold wrap64; omega
            have HW := Aside0.mk hw
            clear he hz hpos hby' hless e1 hw
            go_upto_region 8 with (first | (go_at_call 26; go_loud ((with_reducible refine (entry_ok w wr _ _ t x t' HT.out htb HRE.out HL.out).mono ?_); rintro e w1 ⟨rfl, hs⟩; obtain ⟨A5, c5, hc5, hC5, h5⟩ := Ir.open hs; have h6 := h5.newBlk #[.string x.f0, .int .i64 x.f1, .int .i64 x.f2, .int .u32 x.f3] 42; have xb := (h6.nth 1 rfl).cell 1 (v := .bool false) rfl; have p0 := h6.cell 0 (v := .string x.f0) rfl; have p1 := h6.cell 1 (v := .int .i64 x.f1) rfl; have p2 := h6.cell 2 (v := .int .i64 x.f2) rfl; have p3 := h6.cell 3 (v := .int .u32 x.f3) rfl; have HH := Aside0.mk h6; have HC5 := Aside0.mk hC5; clear hs h5 h6 hC5)))
            generalize w1.alloc (.cells #[.string x.f0, .int .i64 x.f1, .int .i64 x.f2, .int .u32 x.f3] 42) = wn at xb HH p0 p1 p2 p3 ⊢
            generalize w1.heap.size = gx at HH p0 p1 p2 p3 ⊢
            have HL2 := Aside0.mk HH.out.tail.tail
            by_cases hq : x.f0.toList = id.toList
            · have k3 : (x.f0.toList == id.toList) = true := by rw [beq_iff_eq]; exact hq
              have HF := Aside0.mk (show fdF ix sm id = (x, ((i + 1 : Nat) : Int), true) by rw [HE1.out, if_pos hq]; rfl)
              clear hq HE1
              go_wp2_with (first | ((with_reducible refine gate_store (p := 6) rfl ?_); go_loud (refine wpList_store_row rfl 42 (.tmp 6) (.tmp 43) rfl w.heap.size #[.string x.f0, .int .i64 x.f1, .int .i64 x.f2, .int .u32 x.f3] rfl rfl 42 _ HL2.out.blk (by kernel_rfl) rfl (by simp [Value.oneCell']) ?_; have HZ := Aside0.mk (Sat.setRow HL2.out #[.string x.f0, .int .i64 x.f1, .int .i64 x.f2, .int .u32 x.f3]))))
              rw [Exit.noGoto_ret]; refine bodyPost_ret (results_ctt rfl _ _ w.heap.size 42 #[.string x.f0, .int .i64 x.f1, .int .i64 x.f2, .int .u32 x.f3] (0, 0) _ rfl HZ.out.blk Try.underlying42 rfl (by kernel_rfl)) rfl ?_
              exact ⟨by rw [HF.out]; simp only [HW.out]; rfl, HZ.out.below⟩
            · have k3 : (x.f0.toList == id.toList) = false := by rw [beq_eq_false_iff_ne]; exact hq
              by_cases hg : Op.bytesLess id.toList x.f0.toList = true
              · have HF := Aside0.mk (show fdF ix sm id = (zeroE, ((i + 1 : Nat) : Int), false) by rw [HE1.out, if_neg hq, if_pos hg]; rfl)
                clear hq HE1
                go_wp2_with (first | ((with_reducible refine gate_store (p := 6) rfl ?_); go_loud (refine wpList_store_row rfl 42 (.tmp 6) (.tmp 50) rfl w.heap.size #[.string ⟨#[]⟩, .int .i64 0, .int .i64 0, .int .u32 0] rfl rfl 42 _ HL2.out.blk (by kernel_rfl) rfl (by simp [Value.oneCell']) ?_; have HZ := Aside0.mk (Sat.setRow HL2.out #[.string ⟨#[]⟩, .int .i64 0, .int .i64 0, .int .u32 0]))))
                rw [Exit.noGoto_ret]; refine bodyPost_ret (results_ctt rfl _ _ w.heap.size 42 #[.string ⟨#[]⟩, .int .i64 0, .int .i64 0, .int .u32 0] (0, 0) _ rfl HZ.out.blk Try.underlying42 rfl (by kernel_rfl)) rfl ?_
                exact ⟨by rw [HF.out]; simp only [HW.out]; rfl, HZ.out.below⟩
              · have k4 : Op.bytesLess id.toList x.f0.toList = false := by simpa using hg
                have HE3 := Aside0.mk (show fdF ix sm id = fdGo id k ((i + 1 : Nat) : Int) t' by rw [HE1.out, if_neg hq, if_neg hg]; rfl)
                clear hq hg HE1
                go_wp2
                go_roundg k
                case measure => omega
                case rel =>
                  refine ⟨i + 1, t', by first | rw [HW.out] | exact congrArg (Value.int .i64) (by omega), ⟨by have := HI.out; omega⟩, ⟨by have h := HN.out; have h' := HLS.out; omega⟩, HT2, HE3, ⟨?_⟩⟩
                  have h7 := HH.out.tail
                  exact Ir.mk rfl hc5 HC5.out h7
end Go.Proofs.Ytohmbmjneainbaa.IfW
namespace Go.Proofs.Ytohmbmjneainbaa.QB
open Go.RowKit Go.Proofs.YtohmbmjneainbaaW.PrintWords Go.Proofs.YtohmbmjneainbaaW.PrintLast Go.Proofs.YtohmbmjneainbaaW.PrintMore Go.Proofs.Ytohmbmjneainbaa.Uv Go.Proofs.Ytohmbmjneainbaa.UvP Go.Proofs.Ytohmbmjneainbaa.Sl Go.Proofs.Ytohmbmjneainbaa.IrW Go.Proofs.Ytohmbmjneainbaa.IfW
set_option linter.unusedVariables false
set_option linter.unusedSimpArgs false

def index_Find.f (l0 : List Int) (l1 : List Int) (a2 : ByteArray) : Option (ByteArray × Int × Int × Int × Int × Bool) :=
  if (l0.length ≤ 1000000 ∧ (l0.all fun x => decide (0 ≤ x ∧ x < 256)) = true) ∧ (l1.length ≤ 1000000 ∧ (l1.all fun x => decide (0 ≤ x ∧ x < 256)) = true) then
    some ((fdF l0 l1 a2).1.f0, (fdF l0 l1 a2).1.f1, (fdF l0 l1 a2).1.f2, (fdF l0 l1 a2).1.f3, (fdF l0 l1 a2).2.1, (fdF l0 l1 a2).2.2) else none
theorem bytes_all {l : List Int} (h : (l.all fun x => decide (0 ≤ x ∧ x < 256)) = true) : Bytes l := fun x hx => by
  have := List.all_eq_true.1 h x hx
  simpa using this
theorem index_Find.calls (A0 : Option Addr) (c0 : Nat) (l0 : List Int) (A1 : Option Addr) (c1 : Nat) (l1 : List Int) (a2 : ByteArray) (r1 : ByteArray) (r2 : Int) (r3 : Int) (r4 : Int) (r5 : Int) (r6 : Bool) (w : World) (hr0 : Kd.C (Kd.int .u8) w A0 l0.length l0) (hc0 : l0.length ≤ c0) (hr1 : Kd.C (Kd.int .u8) w A1 l1.length l1) (hc1 : l1.length ≤ c1) (h : index_Find.f l0 l1 a2 = some (r1, r2, r3, r4, r5, r6)) :
    Calls Try.prog 17 #[.slice A0 l0.length c0, .slice A1 l1.length c1, .string a2] w fun e w' => e = .returned (.tuple #[.agg #[.string r1, .int .i64 r2, .int .i64 r3, .int .u32 r4], .int .i64 r5, .bool r6]) ∧ Below w.heap.size w w' := by
  unfold index_Find.f at h
  split at h
  · rename_i hz
    simp only [Option.some.injEq, Prod.mk.injEq] at h
    obtain ⟨rfl, rfl, rfl, rfl, rfl, rfl⟩ := h
    exact find_calls w A0 c0 l0 A1 c1 l1 a2 hr0 hc0 (bytes_all hz.1.2) hz.1.1 hr1 hc1 (bytes_all hz.2.2) hz.2.1
  · cases h
theorem index_Find.f_eq {l0 l1 : List Int} (h0 : Bytes l0) (h0l : l0.length ≤ 1000000) (h1 : Bytes l1) (h1l : l1.length ≤ 1000000) (a2 : ByteArray) :
    index_Find.f l0 l1 a2 = some ((fdF l0 l1 a2).1.f0, (fdF l0 l1 a2).1.f1, (fdF l0 l1 a2).1.f2, (fdF l0 l1 a2).1.f3, (fdF l0 l1 a2).2.1, (fdF l0 l1 a2).2.2) := by
  unfold index_Find.f
  rw [if_pos ⟨⟨h0l, List.all_eq_true.2 (fun x hx => by simpa using h0 x hx)⟩, ⟨h1l, List.all_eq_true.2 (fun x hx => by simpa using h1 x hx)⟩⟩]
end Go.Proofs.Ytohmbmjneainbaa.QB
