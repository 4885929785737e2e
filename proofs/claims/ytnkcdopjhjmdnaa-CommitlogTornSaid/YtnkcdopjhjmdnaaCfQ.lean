/- What the call of commitlog.first comes to; as a Lean function laid by hand (a stand-in for the printer). -/
import Derived.Test.YtnkcdopjhjmdnaaCfW
import Derived.Test.YtnkcdopjhjmdnaaCeQ
import Derived.Test.YtnkcdopjhjmdnaaQBx4
namespace Go.Proofs.Ytnkcdopjhjmdnaa.CfW
open Go.RowKit Go.Proofs.YtnkcdopjhjmdnaaW.PrintWords Go.Proofs.YtnkcdopjhjmdnaaW.PrintLast Go.Proofs.YtnkcdopjhjmdnaaW.PrintMore Go.Proofs.Ytnkcdopjhjmdnaa.QB Go.Proofs.Ytnkcdopjhjmdnaa.Sl Go.Proofs.Ytnkcdopjhjmdnaa.Uv Go.Proofs.Ytnkcdopjhjmdnaa.UvP Go.Proofs.Ytnkcdopjhjmdnaa.RuW Go.Proofs.Ytnkcdopjhjmdnaa.CeW
set_option linter.unusedVariables false
set_option linter.unusedSimpArgs false

theorem Sat.setRow {w0 w : World} {L : List Asn} {g : Nat} {cs : Array Value} {t : TypeId} (h : Sat w0 w (Blk g cs t :: L)) (cs' : Array Value) : Sat w0 (w.setRow g cs') (Blk g cs' t :: L) := by
  have hge := h.ge
  have hlt := h.lt
  have hb := h.below
  refine h.turn (fun G hG hGB => ⟨fun k => k = g, ⟨rfl, setRow_heap w g cs cs' t (0, 0) hG.2⟩, hb.trans ⟨rfl, rfl, rfl, by simp, fun k hk => setRow_other w g k cs' (by omega)⟩, by simp, fun k _ hn => setRow_other w g k cs' (fun e => hn (by rw [e]; exact hG.1)), fun k hk => by subst hk; exact ⟨.inl hG.1, by simpa using hlt⟩⟩)
theorem cut_mid {P : Program} (t e : TypeId) {i : TypeInfo} (ht : P.underlying t = some (.slice e)) (hi : P.info? e = some i) (hsz : i.size = 1) (A : Option Addr) (n c lo hi_ : Nat) (l h : Int) (hl : l = (lo : Int)) (hh : h = (hi_ : Int)) (h1 : lo ≤ hi_) (h2 : hi_ ≤ c) :
    ∀ W : World, (Instr.slice t (.slice A n c) (some (.int .i64 l)) (some (.int .i64 h)) none).run P W = .ok (.slice (if c = lo then A else A.map (·.add (lo * 1))) (hi_ - lo) (c - lo)) W := by
  intro W
  subst hl hh
  have hel : P.elem t = e := by simp [Program.elem, ht]
  have hu : P.underlying t = some (.slice (P.elem t)) := by rw [hel]; exact ht
  rw [run_slice_lh W t A n c hu .i64 .i64 (lo : Int) (hi_ : Int) (by omega) (by omega) (by omega), hel]
  simp [sizeOf, typeInfo, hi, hsz, sliced, Result.andThen]
theorem nm_bytes {most : Int} (hm : 0 ≤ most) {b : List Int} (hb : Bytes b) (ok : Bool) {a : Nat} {x : List Int} {o : Bool} (h : nm most b ok = (a, x, o)) : Bytes x ∧ x.length ≤ b.length ∧ (a : Int) ≤ most := by
  obtain ⟨v, n, hv, hn, hl⟩ := ruv_parts hb
  unfold nm at h
  rw [hv] at h
  simp only [Int.toNat_natCast] at h
  split at h
  · simp only [Prod.mk.injEq] at h
    obtain ⟨rfl, rfl, _⟩ := h
    exact ⟨hb, Nat.le_refl _, by omega⟩
  · rename_i hz
    simp only [Prod.mk.injEq] at h
    obtain ⟨rfl, rfl, _⟩ := h
    exact ⟨Bytes.drop hb n, by rw [List.length_drop]; omega, by omega⟩
theorem bytes_encE (sp : Int) (id : ByteArray) (t v s : Int) : Bytes (encE sp id t v s).1 := by
  unfold encE
  split
  · exact fun x hx => by cases hx
  · split
    · exact fun x hx => by cases hx
    · unfold encR bodyR
      exact bytes_app (bytes_app (uv_bytes _) (bytes_be _ _)) (bytes_body _ _ _ _ _)
theorem big8 {b : List Int} (hb : Bytes b) : big (b.take 8) < 18446744073709551616 := by
  have h := big_lt (Bytes.take hb 8)
  exact Nat.lt_of_lt_of_le h (Nat.le_trans (Nat.pow_le_pow_right (by omega) (show (b.take 8).length ≤ 8 by rw [List.length_take]; omega)) (by decide))
/-- What a record's bytes are read as, and whether all was there. -/
def parseR (x : List Int) : (Nat × ByteArray × Nat × Nat × Nat) × Bool :=
  let a := nm 3 x true
  let c := nm 16 a.2.1 a.2.2
  let x3 := c.2.1.drop c.1
  let d := nm 1099511627776 x3 (c.2.2 && decide (c.1 ≤ c.2.1.length))
  let x5 := d.2.1.drop 8
  ((a.1, strOfNums (c.2.1.take c.1), d.1, big (d.2.1.take 8), big (x5.take 8)), (d.2.2 && decide (8 ≤ d.2.1.length)) && decide (8 ≤ x5.length))
def zeroR : Int × ByteArray × Int × Int × Int × Int := (0, ⟨#[]⟩, 0, 0, 0, 0)
def firstF (b : List Int) : Int × ByteArray × Int × Int × Int × Int :=
  if (ruv b).2 = 0 ∨ 64 < (ruv b).1 ∨ (b.length : Int) < (ruv b).1 + (ruv b).2 + 4 then zeroR else
    let e := (ruv b).2.toNat + 4 + (ruv b).1.toNat
    let p := parseR ((b.take e).drop ((ruv b).2.toNat + 4))
    let r := encE p.1.1 p.1.2.1 p.1.2.2.1 p.1.2.2.2.1 p.1.2.2.2.2
    if p.2 = true ∧ r.2 = 0 ∧ r.1 = b.take e then (p.1.1, p.1.2.1, p.1.2.2.1, p.1.2.2.2.1, p.1.2.2.2.2, (e : Int)) else zeroR
set_option maxHeartbeats 4000000 in
set_option maxRecDepth 100000 in
theorem first_calls (w : World) (A : Option Addr) (c : Nat) (b : List Int) (hC : Kd.C (Kd.int .u8) w A b.length b) (hc : b.length ≤ c) (hby : Bytes b) (hb : b.length ≤ 1000000) :
    Calls Try.prog 11 #[.slice A b.length c] w fun e w' => e = .returned (.tuple #[.agg #[.int .i64 (firstF b).1, .string (firstF b).2.1, .int .i64 (firstF b).2.2.1, .int .u64 (firstF b).2.2.2.1, .int .u64 (firstF b).2.2.2.2.1], .int .i64 (firstF b).2.2.2.2.2]) ∧ Below w.heap.size w w' := by
  obtain ⟨v, n, hv, hn, hl⟩ := ruv_parts hby
  have hf := bits_Read_f (k := 30) hby (by omega) (by omega)
  rw [hv] at hf
  have HF := Aside0.mk hf
  have HC := Aside0.mk hC
  have HBY := Aside0.mk hby
  have h0 := ((Sat.start w).newBlk #[.int .i64 0, .string ⟨#[]⟩, .int .i64 0, .int .u64 0, .int .u64 0] 32).newBlk #[.int .i64 0, .string ⟨#[]⟩, .int .i64 0, .int .u64 0, .int .u64 0] 32
  have hsz : (w.alloc (.cells #[.int .i64 0, .string ⟨#[]⟩, .int .i64 0, .int .u64 0, .int .u64 0] 32)).heap.size = w.heap.size + 1 := Array.size_push _
  rw [hsz] at h0
  have H0 := Aside0.mk h0
  by_cases e1 : n = 0
  · have HFI := Aside0.mk (show firstF b = zeroR by unfold firstF; rw [hv]; simp only; rw [if_pos (.inl (by omega))])
    have d1 : ((n : Int) == 0) = true := by rw [beq_iff_eq]; omega
    clear hv hf hC hby h0 hsz e1
    go_enter Try.func11, Try.ntmps11
    go_wp2_with (first | (go_at_call 21; go_loud ((with_reducible refine (bits_ReadUvarint.calls 30 A c b (v : Int) (n : Int) _ (Kd.C_below HC.out H0.out.below) hc HF.out).mono ?_); rintro e w1 ⟨rfl, ⟨⟨k, hk⟩⟩⟩; have H1 := Aside0.mk (H0.out.drewN k); rw [← hk] at H1; clear hk; have kk0 := (H1.out).cell 0 (v := .int .i64 0) rfl; have kk1 := (H1.out).cell 1 (v := .string ⟨#[]⟩) rfl; have kk2 := (H1.out).cell 2 (v := .int .i64 0) rfl; have kk3 := (H1.out).cell 3 (v := .int .u64 0) rfl; have kk4 := (H1.out).cell 4 (v := .int .u64 0) rfl)) | ((with_reducible refine gate_store (p := 2) rfl ?_); go_loud (refine wpList_store_row rfl 32 (.tmp 2) (.tmp 32) rfl w.heap.size #[.int .i64 0, .string ⟨#[]⟩, .int .i64 0, .int .u64 0, .int .u64 0] rfl rfl 32 _ (H1.out.nth 1 rfl).blk (by kernel_rfl) rfl (by simp [Value.oneCell']) ?_; have HZ := Aside0.mk (Sat.setRow (H1.out.nth 1 rfl) #[.int .i64 0, .string ⟨#[]⟩, .int .i64 0, .int .u64 0, .int .u64 0]))))
    refine bodyPost_ret (results_ct rfl _ _ w.heap.size 32 #[.int .i64 0, .string ⟨#[]⟩, .int .i64 0, .int .u64 0, .int .u64 0] (0, 0) _ rfl HZ.out.blk Try.underlying32 rfl (by kernel_rfl)) rfl ?_
    exact ⟨by rw [HFI.out]; rfl, HZ.out.below⟩
  have d1 : ((n : Int) == 0) = false := by rw [beq_eq_false_iff_ne]; omega
  by_cases e2 : 64 < v
  · have HFI := Aside0.mk (show firstF b = zeroR by unfold firstF; rw [hv]; simp only; rw [if_pos (.inr (.inl (by omega)))])
    have d2 : decide ((64 : Int) < (v : Int)) = true := decide_eq_true (by omega)
    have d3 : decide (64 < v) = true := decide_eq_true e2
    clear hv hf hC hby h0 hsz e2 e1
    go_enter Try.func11, Try.ntmps11
    go_wp2_with (first | (go_at_call 21; go_loud ((with_reducible refine (bits_ReadUvarint.calls 30 A c b (v : Int) (n : Int) _ (Kd.C_below HC.out H0.out.below) hc HF.out).mono ?_); rintro e w1 ⟨rfl, ⟨⟨k, hk⟩⟩⟩; have H1 := Aside0.mk (H0.out.drewN k); rw [← hk] at H1; clear hk; have kk0 := (H1.out).cell 0 (v := .int .i64 0) rfl; have kk1 := (H1.out).cell 1 (v := .string ⟨#[]⟩) rfl; have kk2 := (H1.out).cell 2 (v := .int .i64 0) rfl; have kk3 := (H1.out).cell 3 (v := .int .u64 0) rfl; have kk4 := (H1.out).cell 4 (v := .int .u64 0) rfl)) | ((with_reducible refine gate_store (p := 2) rfl ?_); go_loud (refine wpList_store_row rfl 32 (.tmp 2) (.tmp 32) rfl w.heap.size #[.int .i64 0, .string ⟨#[]⟩, .int .i64 0, .int .u64 0, .int .u64 0] rfl rfl 32 _ (H1.out.nth 1 rfl).blk (by kernel_rfl) rfl (by simp [Value.oneCell']) ?_; have HZ := Aside0.mk (Sat.setRow (H1.out.nth 1 rfl) #[.int .i64 0, .string ⟨#[]⟩, .int .i64 0, .int .u64 0, .int .u64 0]))))
    refine bodyPost_ret (results_ct rfl _ _ w.heap.size 32 #[.int .i64 0, .string ⟨#[]⟩, .int .i64 0, .int .u64 0, .int .u64 0] (0, 0) _ rfl HZ.out.blk Try.underlying32 rfl (by kernel_rfl)) rfl ?_
    exact ⟨by rw [HFI.out]; rfl, HZ.out.below⟩
  have d2 : decide ((64 : Int) < (v : Int)) = false := decide_eq_false (by omega)
  have d3 : decide (64 < v) = false := decide_eq_false e2
  by_cases e3 : b.length < v + n + 4
  · have HFI := Aside0.mk (show firstF b = zeroR by unfold firstF; rw [hv]; simp only; rw [if_pos (.inr (.inr (by omega)))])
    have d4 : decide ((b.length : Int) < (v : Int) + (n : Int) + 4) = true := decide_eq_true (by omega)
    have d5 : decide (b.length < v + n + 4) = true := decide_eq_true e3
    clear hv hf hC hby h0 hsz e1
    go_enter Try.func11, Try.ntmps11
    go_wp2_with (first | (go_at_call 21; go_loud ((with_reducible refine (bits_ReadUvarint.calls 30 A c b (v : Int) (n : Int) _ (Kd.C_below HC.out H0.out.below) hc HF.out).mono ?_); rintro e w1 ⟨rfl, ⟨⟨k, hk⟩⟩⟩; have H1 := Aside0.mk (H0.out.drewN k); rw [← hk] at H1; clear hk; have kk0 := (H1.out).cell 0 (v := .int .i64 0) rfl; have kk1 := (H1.out).cell 1 (v := .string ⟨#[]⟩) rfl; have kk2 := (H1.out).cell 2 (v := .int .i64 0) rfl; have kk3 := (H1.out).cell 3 (v := .int .u64 0) rfl; have kk4 := (H1.out).cell 4 (v := .int .u64 0) rfl)) | ((with_reducible refine gate_store (p := 2) rfl ?_); go_loud (refine wpList_store_row rfl 32 (.tmp 2) (.tmp 32) rfl w.heap.size #[.int .i64 0, .string ⟨#[]⟩, .int .i64 0, .int .u64 0, .int .u64 0] rfl rfl 32 _ (H1.out.nth 1 rfl).blk (by kernel_rfl) rfl (by simp [Value.oneCell']) ?_; have HZ := Aside0.mk (Sat.setRow (H1.out.nth 1 rfl) #[.int .i64 0, .string ⟨#[]⟩, .int .i64 0, .int .u64 0, .int .u64 0]))))
    refine bodyPost_ret (results_ct rfl _ _ w.heap.size 32 #[.int .i64 0, .string ⟨#[]⟩, .int .i64 0, .int .u64 0, .int .u64 0] (0, 0) _ rfl HZ.out.blk Try.underlying32 rfl (by kernel_rfl)) rfl ?_
    exact ⟨by rw [HFI.out]; rfl, HZ.out.below⟩
  have d4 : decide ((b.length : Int) < (v : Int) + (n : Int) + 4) = false := decide_eq_false (by omega)
  have d5 : decide (b.length < v + n + 4) = false := decide_eq_false e3
  have hE : v + n + 4 ≤ b.length := by omega
  obtain ⟨i0, hi0, _, hsz1, _⟩ := info_parts UvPinfo
  have cm := cut_mid (P := Try.prog) 22 5 Try.underlying22 hi0 hsz1 A b.length c (n + 4) (n + 4 + v) ((n : Int) + 4) ((n : Int) + 4 + (v : Int)) (by omega) (by omega) (by omega) (by omega)
  have ct := cut_to (P := Try.prog) 22 5 .i64 Try.underlying22 hi0 A b.length c ((n : Int) + 4 + (v : Int)) (by omega) (by omega) hc
  rw [show ((n : Int) + 4 + (v : Int)).toNat = n + 4 + v by omega] at ct
  have hCm := Kd.C_mid (lo := n + 4) (hi := n + 4 + v) hC (by omega) (by omega) hc
  have hlx : ((b.take (n + 4 + v)).drop (n + 4)).length = v := by rw [List.length_drop, List.length_take]; omega
  have hCt := Kd.C_take (m := n + 4 + v) hC (by omega)
  have hlt : (b.take (n + 4 + v)).length = n + 4 + v := by rw [List.length_take]; omega
  have hbx : Bytes ((b.take (n + 4 + v)).drop (n + 4)) := Bytes.drop (Bytes.take hby _) _
  rw [show n + 4 + v - (n + 4) = v by omega] at cm
  have hFI : firstF b = (let p := parseR ((b.take (n + 4 + v)).drop (n + 4)); let r := encE p.1.1 p.1.2.1 p.1.2.2.1 p.1.2.2.2.1 p.1.2.2.2.2; if p.2 = true ∧ r.2 = 0 ∧ r.1 = b.take (n + 4 + v) then (((p.1.1 : Nat) : Int), p.1.2.1, ((p.1.2.2.1 : Nat) : Int), ((p.1.2.2.2.1 : Nat) : Int), ((p.1.2.2.2.2 : Nat) : Int), ((n + 4 + v : Nat) : Int)) else zeroR) := by
    unfold firstF
    rw [hv]
    simp only [Int.toNat_natCast]
    rw [if_neg (by omega)]
  obtain ⟨A2, hA2⟩ : ∃ A2, A2 = (if c = n + 4 then A else (A : Option Addr).map (·.add ((n + 4) * 1))) := ⟨_, rfl⟩
  rw [← hA2] at cm
  have hCm2 : Kd.C (Kd.int .u8) w A2 ((b.take (n + 4 + v)).drop (n + 4)).length ((b.take (n + 4 + v)).drop (n + 4)) := by rw [hA2]; exact hCm
  obtain ⟨x, hx⟩ : ∃ x, (b.take (n + 4 + v)).drop (n + 4) = x := ⟨_, rfl⟩
  obtain ⟨bt, hbt⟩ : ∃ bt, b.take (n + 4 + v) = bt := ⟨_, rfl⟩
  rw [hx] at hCm2 hlx hbx hFI
  rw [hbt] at hCt hlt hFI
  obtain ⟨c2, hc2⟩ : ∃ c2, c - (n + 4) = c2 := ⟨_, rfl⟩
  have hcc : x.length ≤ c2 := by omega
  rw [hc2] at cm
  have HCX := Aside0.mk hCm2
  have HCT := Aside0.mk hCt
  have HLT := Aside0.mk hlt
  have HBT := Aside0.mk (show Bytes bt by rw [← hbt]; exact Bytes.take hby _)
  have HLX := Aside0.mk hlx
  have HBX := Aside0.mk hbx
  have HFI := Aside0.mk hFI
  have hv64 : v ≤ 64 := by omega
  have hvi : IntKind.i64.wrap (v : Int) = (v : Int) := by rw [IntKind.wrap_i64]; omega
  clear hv hf hC hby h0 hsz e1 e2 e3 hCm hCt hbx hFI hCm2 hA2 hx hbt hc2 hi0 hsz1 hlt hlx
  go_enter Try.func11, Try.ntmps11
  go_upto_region 7 with (first | (go_at_call 21; go_loud ((with_reducible refine (bits_ReadUvarint.calls 30 A c b (v : Int) (n : Int) _ (Kd.C_below HC.out H0.out.below) hc HF.out).mono ?_); rintro e w1 ⟨rfl, ⟨⟨k, hk⟩⟩⟩; have H1 := Aside0.mk (H0.out.drewN k); rw [← hk] at H1; clear hk; have kk0 := (H1.out).cell 0 (v := .int .i64 0) rfl; have kk1 := (H1.out).cell 1 (v := .string ⟨#[]⟩) rfl; have kk2 := (H1.out).cell 2 (v := .int .i64 0) rfl; have kk3 := (H1.out).cell 3 (v := .int .u64 0) rfl; have kk4 := (H1.out).cell 4 (v := .int .u64 0) rfl)))
  have H2 : Aside0 (Sat w (w1.alloc (.cells #[.slice A2 v c2, .bool true] 52)) (Fl w w1.heap.size x true :: Blk (w.heap.size + 1) #[.int .i64 0, .string ⟨#[]⟩, .int .i64 0, .int .u64 0, .int .u64 0] 32 :: Blk w.heap.size #[.int .i64 0, .string ⟨#[]⟩, .int .i64 0, .int .u64 0, .int .u64 0] 32 :: [])) := ⟨Fl.mk HLX.out.symm hcc HCX.out (H1.out.newBlk #[.slice A2 v c2, .bool true] 52)⟩
  clear kk0 kk1 kk2 kk3 kk4 H1 H0
  generalize w1.alloc (.cells #[.slice A2 v c2, .bool true] 52) = w6 at H2 ⊢
  generalize w1.heap.size = gf at H2 ⊢
  have hxl : x.length ≤ 1099511627776 := by rw [HLX.out]; omega
  obtain ⟨⟨a, x1, o1⟩, hn1⟩ : ∃ p, nm 3 x true = p := ⟨_, rfl⟩
  obtain ⟨by1, l1, m1⟩ := nm_bytes (most := 3) (by decide) HBX.out true hn1
  have hx1l : x1.length ≤ 1099511627776 := by omega
  obtain ⟨⟨k, x2, o2⟩, hn2⟩ : ∃ p, nm 16 x1 o1 = p := ⟨_, rfl⟩
  obtain ⟨by2, l2, m2⟩ := nm_bytes (most := 16) (by decide) by1 o1 hn2
  have hx2l : x2.length ≤ 1099511627776 := by omega
  obtain ⟨id, hid⟩ : ∃ i, strOfNums (x2.take k) = i := ⟨_, rfl⟩
  obtain ⟨x3, hx3⟩ : ∃ y, x2.drop k = y := ⟨_, rfl⟩
  have by3 : Bytes x3 := by rw [← hx3]; exact Bytes.drop by2 k
  have hx3l : x3.length ≤ 1099511627776 := by rw [← hx3, List.length_drop]; omega
  obtain ⟨o3, ho3⟩ : ∃ o, (o2 && decide (k ≤ x2.length)) = o := ⟨_, rfl⟩
  obtain ⟨⟨m, x4, o4⟩, hn4⟩ : ∃ p, nm 1099511627776 x3 o3 = p := ⟨_, rfl⟩
  obtain ⟨by4, l4, m4⟩ := nm_bytes (most := 1099511627776) (by decide) by3 o3 hn4
  have hx4l : x4.length ≤ 1099511627776 := by omega
  obtain ⟨v1, hv1⟩ : ∃ y, big (x4.take 8) = y := ⟨_, rfl⟩
  obtain ⟨x5, hx5⟩ : ∃ y, x4.drop 8 = y := ⟨_, rfl⟩
  have by5 : Bytes x5 := by rw [← hx5]; exact Bytes.drop by4 8
  have hx5l : x5.length ≤ 1099511627776 := by rw [← hx5, List.length_drop]; omega
  obtain ⟨o5, ho5⟩ : ∃ o, (o4 && decide (8 ≤ x4.length)) = o := ⟨_, rfl⟩
  obtain ⟨s1, hs1⟩ : ∃ y, big (x5.take 8) = y := ⟨_, rfl⟩
  obtain ⟨x6, hx6⟩ : ∃ y, x5.drop 8 = y := ⟨_, rfl⟩
  obtain ⟨o6, ho6⟩ : ∃ o, (o5 && decide (8 ≤ x5.length)) = o := ⟨_, rfl⟩
  have hv1b : v1 < 18446744073709551616 := by rw [← hv1]; exact big8 by4
  have hs1b : s1 < 18446744073709551616 := by rw [← hs1]; exact big8 by5
  have hP : parseR x = ((a, id, m, v1, s1), o6) := by
    unfold parseR
    simp only [hn1, hn2, hid, hx3, ho3, hn4, hv1, hx5, ho5, hs1, ho6]
  have HF2 := HFI.out
  rw [hP] at HF2
  simp only at HF2
  obtain ⟨⟨r1, r2⟩, hr⟩ : ∃ r, encE (a : Int) id (m : Int) (v1 : Int) (s1 : Int) = r := ⟨_, rfl⟩
  rw [hr] at HF2
  simp only at HF2
  have hen : commitlog_Encode.f 0 (a : Int) id (m : Int) (v1 : Int) (s1 : Int) = some (r1, r2) := by rw [commitlog_Encode.f_eq (by omega) (by omega), hr]
  have N7 := number_calls w w6 _ gf x true 3 (by decide) (by decide) HBX.out hxl H2.out
  rw [hn1] at N7
  have HN7 := Aside0.mk N7
  have B1_ := Aside0.mk by1
  have B2_ := Aside0.mk by2
  have B3_ := Aside0.mk by3
  have B4_ := Aside0.mk by4
  have B5_ := Aside0.mk by5
  have E2_ := Aside0.mk hn2
  have EID := Aside0.mk hid
  have E3_ := Aside0.mk hx3
  have O3_ := Aside0.mk ho3
  have E4_ := Aside0.mk hn4
  have V1_ := Aside0.mk hv1
  have E5_ := Aside0.mk hx5
  have O5_ := Aside0.mk ho5
  have S1_ := Aside0.mk hs1
  have E6_ := Aside0.mk hx6
  have O6_ := Aside0.mk ho6
  have HEN := Aside0.mk hen
  have HBR := Aside0.mk (show Bytes r1 by rw [show r1 = (encE (a : Int) id (m : Int) (v1 : Int) (s1 : Int)).1 by rw [hr]]; exact bytes_encE _ _ _ _ _)
  have HF2 := Aside0.mk HF2
  clear N7 by1 by2 by3 by4 by5 hn1 hn2 hid hx3 ho3 hn4 hv1 hx5 ho5 hs1 hx6 ho6 hen hP hr l1 l2 l4 hxl
  go_upto_region 8 with (first | (go_at_call 22; go_loud ((with_reducible refine HN7.out.mono ?_); rintro e w7 ⟨rfl, hs⟩; have y0 := (hs.nth 1 rfl).cell 0 (v := .int .i64 0) rfl; have y1 := (hs.nth 1 rfl).free 0; have H7 : Aside0 (Sat w w7 (Fl w gf x1 o1 :: Blk (w.heap.size + 1) #[.int .i64 0, .string ⟨#[]⟩, .int .i64 0, .int .u64 0, .int .u64 0] 32 :: Blk w.heap.size #[.int .i64 0, .string ⟨#[]⟩, .int .i64 0, .int .u64 0, .int .u64 0] 32 :: [])) := ⟨hs⟩; clear hs)))
  have K7 : Aside0 (Sat w (w7.setCell ⟨w.heap.size + 1, 0, none⟩ (.int .i64 (a : Nat))) (Fl w gf x1 o1 :: Blk (w.heap.size + 1) #[.int .i64 (a : Nat), .string ⟨#[]⟩, .int .i64 0, .int .u64 0, .int .u64 0] 32 :: Blk w.heap.size #[.int .i64 0, .string ⟨#[]⟩, .int .i64 0, .int .u64 0, .int .u64 0] 32 :: [])) := ⟨(((H7.out.nth 1 rfl).setBlk 0 (.int .i64 (a : Nat))).nth 1 rfl)⟩
  clear H7 y0 y1
  generalize w7.setCell ⟨w.heap.size + 1, 0, none⟩ (.int .i64 (a : Nat)) = w7b at K7 ⊢
  have N8 := number_calls w w7b _ gf x1 o1 16 (by decide) (by decide) B1_.out hx1l K7.out
  rw [E2_.out] at N8
  have HN8 := Aside0.mk N8
  clear N8
  go_upto_region 9 with (first | (go_at_call 22; go_loud ((with_reducible refine HN8.out.mono ?_); rintro e w8a ⟨rfl, hs⟩; have H8a : Aside0 (Sat w w8a (Fl w gf x2 o2 :: Blk (w.heap.size + 1) #[.int .i64 (a : Nat), .string ⟨#[]⟩, .int .i64 0, .int .u64 0, .int .u64 0] 32 :: Blk w.heap.size #[.int .i64 0, .string ⟨#[]⟩, .int .i64 0, .int .u64 0, .int .u64 0] 32 :: [])) := ⟨hs⟩; clear hs)) | (go_at_call 23; go_loud ((with_reducible refine (take_calls w w8a _ gf x2 o2 k hx2l H8a.out).mono ?_); rintro e w8 ⟨A8, c8, rfl, hc8, hC8, hs⟩; have cs := Kd.C_string (P := Try.prog) (src := 22) (dst := 9) (c := c8) Try.underlying22 Try.underlying5 Try.underlying9 (Kd.C_below hC8 hs.below); rw [EID.out, List.length_take] at cs; rw [E3_.out, O3_.out] at hs; have y0 := (hs.nth 1 rfl).cell 1 (v := .string ⟨#[]⟩) rfl; have y1 := (hs.nth 1 rfl).free 1; have H8 : Aside0 (Sat w w8 (Fl w gf x3 o3 :: Blk (w.heap.size + 1) #[.int .i64 (a : Nat), .string ⟨#[]⟩, .int .i64 0, .int .u64 0, .int .u64 0] 32 :: Blk w.heap.size #[.int .i64 0, .string ⟨#[]⟩, .int .i64 0, .int .u64 0, .int .u64 0] 32 :: [])) := ⟨hs⟩; clear hs hC8)))
  have K8 : Aside0 (Sat w (w8.setCell ⟨w.heap.size + 1, 1, none⟩ (.string id)) (Fl w gf x3 o3 :: Blk (w.heap.size + 1) #[.int .i64 (a : Nat), .string id, .int .i64 0, .int .u64 0, .int .u64 0] 32 :: Blk w.heap.size #[.int .i64 0, .string ⟨#[]⟩, .int .i64 0, .int .u64 0, .int .u64 0] 32 :: [])) := ⟨(((H8.out.nth 1 rfl).setBlk 1 (.string id)).nth 1 rfl)⟩
  clear H8 y0 y1 cs
  generalize w8.setCell ⟨w.heap.size + 1, 1, none⟩ (.string id) = w8b at K8 ⊢
  have N9 := number_calls w w8b _ gf x3 o3 1099511627776 (by decide) (by decide) B3_.out hx3l K8.out
  rw [E4_.out] at N9
  have HN9 := Aside0.mk N9
  clear N9
  go_upto_region 10 with (first | (go_at_call 22; go_loud ((with_reducible refine HN9.out.mono ?_); rintro e w9 ⟨rfl, hs⟩; have y0 := (hs.nth 1 rfl).cell 2 (v := .int .i64 0) rfl; have y1 := (hs.nth 1 rfl).free 2; have H9 : Aside0 (Sat w w9 (Fl w gf x4 o4 :: Blk (w.heap.size + 1) #[.int .i64 (a : Nat), .string id, .int .i64 0, .int .u64 0, .int .u64 0] 32 :: Blk w.heap.size #[.int .i64 0, .string ⟨#[]⟩, .int .i64 0, .int .u64 0, .int .u64 0] 32 :: [])) := ⟨hs⟩; clear hs)))
  have K9 : Aside0 (Sat w (w9.setCell ⟨w.heap.size + 1, 2, none⟩ (.int .i64 (m : Nat))) (Fl w gf x4 o4 :: Blk (w.heap.size + 1) #[.int .i64 (a : Nat), .string id, .int .i64 (m : Nat), .int .u64 0, .int .u64 0] 32 :: Blk w.heap.size #[.int .i64 0, .string ⟨#[]⟩, .int .i64 0, .int .u64 0, .int .u64 0] 32 :: [])) := ⟨(((H9.out.nth 1 rfl).setBlk 2 (.int .i64 (m : Nat))).nth 1 rfl)⟩
  clear H9 y0 y1
  generalize w9.setCell ⟨w.heap.size + 1, 2, none⟩ (.int .i64 (m : Nat)) = w9b at K9 ⊢
  have N10 := wide_calls w w9b _ gf x4 o4 B4_.out hx4l K9.out
  rw [V1_.out, E5_.out, O5_.out] at N10
  have HN10 := Aside0.mk N10
  clear N10
  go_upto_region 11 with (first | (go_at_call 24; go_loud ((with_reducible refine HN10.out.mono ?_); rintro e w10 ⟨rfl, hs⟩; have y0 := (hs.nth 1 rfl).cell 3 (v := .int .u64 0) rfl; have y1 := (hs.nth 1 rfl).free 3; have H10 : Aside0 (Sat w w10 (Fl w gf x5 o5 :: Blk (w.heap.size + 1) #[.int .i64 (a : Nat), .string id, .int .i64 (m : Nat), .int .u64 0, .int .u64 0] 32 :: Blk w.heap.size #[.int .i64 0, .string ⟨#[]⟩, .int .i64 0, .int .u64 0, .int .u64 0] 32 :: [])) := ⟨hs⟩; clear hs)))
  have K10 : Aside0 (Sat w (w10.setCell ⟨w.heap.size + 1, 3, none⟩ (.int .u64 (v1 : Nat))) (Fl w gf x5 o5 :: Blk (w.heap.size + 1) #[.int .i64 (a : Nat), .string id, .int .i64 (m : Nat), .int .u64 (v1 : Nat), .int .u64 0] 32 :: Blk w.heap.size #[.int .i64 0, .string ⟨#[]⟩, .int .i64 0, .int .u64 0, .int .u64 0] 32 :: [])) := ⟨(((H10.out.nth 1 rfl).setBlk 3 (.int .u64 (v1 : Nat))).nth 1 rfl)⟩
  clear H10 y0 y1
  generalize w10.setCell ⟨w.heap.size + 1, 3, none⟩ (.int .u64 (v1 : Nat)) = w10b at K10 ⊢
  have N11 := wide_calls w w10b _ gf x5 o5 B5_.out hx5l K10.out
  rw [S1_.out, E6_.out, O6_.out] at N11
  have HN11 := Aside0.mk N11
  clear N11
  go_upto_region 12 with (first | (go_at_call 24; go_loud ((with_reducible refine HN11.out.mono ?_); rintro e w11 ⟨rfl, hs⟩; have y0 := (hs.nth 1 rfl).cell 4 (v := .int .u64 0) rfl; have y1 := (hs.nth 1 rfl).free 4; have H11 : Aside0 (Sat w w11 (Fl w gf x6 o6 :: Blk (w.heap.size + 1) #[.int .i64 (a : Nat), .string id, .int .i64 (m : Nat), .int .u64 (v1 : Nat), .int .u64 0] 32 :: Blk w.heap.size #[.int .i64 0, .string ⟨#[]⟩, .int .i64 0, .int .u64 0, .int .u64 0] 32 :: [])) := ⟨hs⟩; clear hs)))
  have K11 : Aside0 (Sat w (w11.setCell ⟨w.heap.size + 1, 4, none⟩ (.int .u64 (s1 : Nat))) (Fl w gf x6 o6 :: Blk (w.heap.size + 1) #[.int .i64 (a : Nat), .string id, .int .i64 (m : Nat), .int .u64 (v1 : Nat), .int .u64 (s1 : Nat)] 32 :: Blk w.heap.size #[.int .i64 0, .string ⟨#[]⟩, .int .i64 0, .int .u64 0, .int .u64 0] 32 :: [])) := ⟨(((H11.out.nth 1 rfl).setBlk 4 (.int .u64 (s1 : Nat))).nth 1 rfl)⟩
  clear H11 y0 y1
  generalize w11.setCell ⟨w.heap.size + 1, 4, none⟩ (.int .u64 (s1 : Nat)) = w11b at K11 ⊢
  have kk0 := (K11.out.nth 1 rfl).cell 0 (v := .int .i64 (a : Nat)) rfl
  have kk1 := (K11.out.nth 1 rfl).cell 1 (v := .string id) rfl
  have kk2 := (K11.out.nth 1 rfl).cell 2 (v := .int .i64 (m : Nat)) rfl
  have kk3 := (K11.out.nth 1 rfl).cell 3 (v := .int .u64 (v1 : Nat)) rfl
  have kk4 := (K11.out.nth 1 rfl).cell 4 (v := .int .u64 (s1 : Nat)) rfl
  cases o6 with
  | false =>
    have HFZ := Aside0.mk (show firstF b = zeroR by rw [HF2.out, if_neg (by simp)])
    go_wp2_with (first | (go_at_call 9; go_loud ((with_reducible refine (commitlog_Encode.calls 0 (a : Int) id (m : Int) (v1 : Int) (s1 : Int) r1 r2 w11b HEN.out).mono ?_); rintro e w12 ⟨vr, rfl, hrr, hbb⟩; obtain ⟨A3, c3, rfl⟩ := Kd.R_slice hrr; have hs12 := K11.out.made hbb hrr; obtain ⟨_, _, _, _, hfo⟩ := Fl.open (hs12.nth 1 rfl); have yo := hfo.cell 1 (v := .bool false) rfl; have jj0 := (hs12.nth 2 rfl).cell 0 (v := .int .i64 (a : Nat)) rfl; have jj1 := (hs12.nth 2 rfl).cell 1 (v := .string id) rfl; have jj2 := (hs12.nth 2 rfl).cell 2 (v := .int .i64 (m : Nat)) rfl; have jj3 := (hs12.nth 2 rfl).cell 3 (v := .int .u64 (v1 : Nat)) rfl; have jj4 := (hs12.nth 2 rfl).cell 4 (v := .int .u64 (s1 : Nat)) rfl; have H12 : Aside0 (Sat w w12 (Row (Kd.int .u8) 5 (.slice A3 r1.length c3) r1 :: Fl w gf x6 false :: Blk (w.heap.size + 1) #[.int .i64 (a : Nat), .string id, .int .i64 (m : Nat), .int .u64 (v1 : Nat), .int .u64 (s1 : Nat)] 32 :: Blk w.heap.size #[.int .i64 0, .string ⟨#[]⟩, .int .i64 0, .int .u64 0, .int .u64 0] 32 :: [])) := ⟨hs12⟩; clear hs12 hfo hrr hbb)) | ((with_reducible refine gate_store (p := 2) rfl ?_); go_loud (refine wpList_store_row rfl 32 (.tmp 2) (.tmp 88) rfl w.heap.size #[.int .i64 0, .string ⟨#[]⟩, .int .i64 0, .int .u64 0, .int .u64 0] rfl rfl 32 _ (H12.out.nth 3 rfl).blk (by kernel_rfl) rfl (by simp [Value.oneCell']) ?_; have HZ := Aside0.mk (Sat.setRow (H12.out.nth 3 rfl) #[.int .i64 0, .string ⟨#[]⟩, .int .i64 0, .int .u64 0, .int .u64 0]))))
    refine bodyPost_ret (results_ct rfl _ _ w.heap.size 32 #[.int .i64 0, .string ⟨#[]⟩, .int .i64 0, .int .u64 0, .int .u64 0] (0, 0) _ rfl HZ.out.blk Try.underlying32 rfl (by kernel_rfl)) rfl ?_
    exact ⟨by rw [HFZ.out]; rfl, HZ.out.below⟩
  | true =>
  by_cases hz : r2 = 0
  · have d6 : (r2 != 0) = false := by rw [bne_eq_false_iff_eq]; exact hz
    have d7 : (r2 == 0) = true := by rw [beq_iff_eq]; exact hz
    obtain ⟨q, hq⟩ : ∃ q, ((strOfNums r1).toList == (strOfNums bt).toList) = q := ⟨_, rfl⟩
    have HQ := Aside0.mk (show bytes_Equal.f r1 bt = some q by unfold bytes_Equal.f; rw [hq])
    by_cases he : r1 = bt
    · have hqt : q = true := by rw [← hq, he, beq_self_eq_true]
      subst hqt
      have HFZ := Aside0.mk (show firstF b = (((a : Nat) : Int), id, ((m : Nat) : Int), ((v1 : Nat) : Int), ((s1 : Nat) : Int), ((n + 4 + v : Nat) : Int)) by rw [HF2.out, if_pos ⟨rfl, hz, he⟩])
      clear hq he hz
      go_wp2_with (first | (go_at_call 9; go_loud ((with_reducible refine (commitlog_Encode.calls 0 (a : Int) id (m : Int) (v1 : Int) (s1 : Int) r1 r2 w11b HEN.out).mono ?_); rintro e w12 ⟨vr, rfl, hrr, hbb⟩; obtain ⟨A3, c3, rfl⟩ := Kd.R_slice hrr; have hs12 := K11.out.made hbb hrr; obtain ⟨_, _, _, _, hfo⟩ := Fl.open (hs12.nth 1 rfl); have yo := hfo.cell 1 (v := .bool true) rfl; have jj0 := (hs12.nth 2 rfl).cell 0 (v := .int .i64 (a : Nat)) rfl; have jj1 := (hs12.nth 2 rfl).cell 1 (v := .string id) rfl; have jj2 := (hs12.nth 2 rfl).cell 2 (v := .int .i64 (m : Nat)) rfl; have jj3 := (hs12.nth 2 rfl).cell 3 (v := .int .u64 (v1 : Nat)) rfl; have jj4 := (hs12.nth 2 rfl).cell 4 (v := .int .u64 (s1 : Nat)) rfl; have H12 : Aside0 (Sat w w12 (Row (Kd.int .u8) 5 (.slice A3 r1.length c3) r1 :: Fl w gf x6 true :: Blk (w.heap.size + 1) #[.int .i64 (a : Nat), .string id, .int .i64 (m : Nat), .int .u64 (v1 : Nat), .int .u64 (s1 : Nat)] 32 :: Blk w.heap.size #[.int .i64 0, .string ⟨#[]⟩, .int .i64 0, .int .u64 0, .int .u64 0] 32 :: [])) := ⟨hs12⟩; clear hs12 hfo hrr hbb)) | (go_at_call 25; go_loud (have hrl := H12.out.rowLen; have Q := bytes_Equal.calls A3 c3 r1 A c bt _ w12 H12.out.rowC hrl.2 (Kd.C_below HCT.out H12.out.below) (by rw [HLT.out]; omega) HQ.out; rw [HLT.out] at Q; (with_reducible refine Q.mono ?_); rintro e w13 ⟨rfl, ⟨⟨kk, hkk⟩⟩⟩; have H13 := Aside0.mk (H12.out.drewN kk); rw [← hkk] at H13; clear hkk Q hrl; have ii0 := (H13.out.nth 2 rfl).cell 0 (v := .int .i64 (a : Nat)) rfl; have ii1 := (H13.out.nth 2 rfl).cell 1 (v := .string id) rfl; have ii2 := (H13.out.nth 2 rfl).cell 2 (v := .int .i64 (m : Nat)) rfl; have ii3 := (H13.out.nth 2 rfl).cell 3 (v := .int .u64 (v1 : Nat)) rfl; have ii4 := (H13.out.nth 2 rfl).cell 4 (v := .int .u64 (s1 : Nat)) rfl)) | ((with_reducible refine gate_store (p := 2) rfl ?_); go_loud (refine wpList_store_row rfl 32 (.tmp 2) (.tmp 89) rfl w.heap.size #[.int .i64 (a : Nat), .string id, .int .i64 (m : Nat), .int .u64 (v1 : Nat), .int .u64 (s1 : Nat)] rfl rfl 32 _ (H13.out.nth 3 rfl).blk (by kernel_rfl) rfl (by simp [Value.oneCell']) ?_; have HZ := Aside0.mk (Sat.setRow (H13.out.nth 3 rfl) #[.int .i64 (a : Nat), .string id, .int .i64 (m : Nat), .int .u64 (v1 : Nat), .int .u64 (s1 : Nat)]))))
      refine bodyPost_ret (results_ct rfl _ _ w.heap.size 32 #[.int .i64 (a : Nat), .string id, .int .i64 (m : Nat), .int .u64 (v1 : Nat), .int .u64 (s1 : Nat)] (0, 0) _ rfl HZ.out.blk Try.underlying32 rfl (by kernel_rfl)) rfl ?_
      exact ⟨by rw [HFZ.out]; rfl, HZ.out.below⟩
    · have hqf : q = false := by
        rw [← hq, beq_eq_false_iff_ne]
        intro e
        exact he (Go.Proofs.Ytnkcdopjhjmdnaa.UvN.str_inj' HBR.out HBT.out e)
      subst hqf
      have HFZ := Aside0.mk (show firstF b = zeroR by rw [HF2.out, if_neg (fun h => he h.2.2)])
      clear hq he hz
      go_wp2_with (first | (go_at_call 9; go_loud ((with_reducible refine (commitlog_Encode.calls 0 (a : Int) id (m : Int) (v1 : Int) (s1 : Int) r1 r2 w11b HEN.out).mono ?_); rintro e w12 ⟨vr, rfl, hrr, hbb⟩; obtain ⟨A3, c3, rfl⟩ := Kd.R_slice hrr; have hs12 := K11.out.made hbb hrr; obtain ⟨_, _, _, _, hfo⟩ := Fl.open (hs12.nth 1 rfl); have yo := hfo.cell 1 (v := .bool true) rfl; have jj0 := (hs12.nth 2 rfl).cell 0 (v := .int .i64 (a : Nat)) rfl; have jj1 := (hs12.nth 2 rfl).cell 1 (v := .string id) rfl; have jj2 := (hs12.nth 2 rfl).cell 2 (v := .int .i64 (m : Nat)) rfl; have jj3 := (hs12.nth 2 rfl).cell 3 (v := .int .u64 (v1 : Nat)) rfl; have jj4 := (hs12.nth 2 rfl).cell 4 (v := .int .u64 (s1 : Nat)) rfl; have H12 : Aside0 (Sat w w12 (Row (Kd.int .u8) 5 (.slice A3 r1.length c3) r1 :: Fl w gf x6 true :: Blk (w.heap.size + 1) #[.int .i64 (a : Nat), .string id, .int .i64 (m : Nat), .int .u64 (v1 : Nat), .int .u64 (s1 : Nat)] 32 :: Blk w.heap.size #[.int .i64 0, .string ⟨#[]⟩, .int .i64 0, .int .u64 0, .int .u64 0] 32 :: [])) := ⟨hs12⟩; clear hs12 hfo hrr hbb)) | (go_at_call 25; go_loud (have hrl := H12.out.rowLen; have Q := bytes_Equal.calls A3 c3 r1 A c bt _ w12 H12.out.rowC hrl.2 (Kd.C_below HCT.out H12.out.below) (by rw [HLT.out]; omega) HQ.out; rw [HLT.out] at Q; (with_reducible refine Q.mono ?_); rintro e w13 ⟨rfl, ⟨⟨kk, hkk⟩⟩⟩; have H13 := Aside0.mk (H12.out.drewN kk); rw [← hkk] at H13; clear hkk Q hrl; have ii0 := (H13.out.nth 2 rfl).cell 0 (v := .int .i64 (a : Nat)) rfl; have ii1 := (H13.out.nth 2 rfl).cell 1 (v := .string id) rfl; have ii2 := (H13.out.nth 2 rfl).cell 2 (v := .int .i64 (m : Nat)) rfl; have ii3 := (H13.out.nth 2 rfl).cell 3 (v := .int .u64 (v1 : Nat)) rfl; have ii4 := (H13.out.nth 2 rfl).cell 4 (v := .int .u64 (s1 : Nat)) rfl)) | ((with_reducible refine gate_store (p := 2) rfl ?_); go_loud (refine wpList_store_row rfl 32 (.tmp 2) (.tmp 88) rfl w.heap.size #[.int .i64 0, .string ⟨#[]⟩, .int .i64 0, .int .u64 0, .int .u64 0] rfl rfl 32 _ (H13.out.nth 3 rfl).blk (by kernel_rfl) rfl (by simp [Value.oneCell']) ?_; have HZ := Aside0.mk (Sat.setRow (H13.out.nth 3 rfl) #[.int .i64 0, .string ⟨#[]⟩, .int .i64 0, .int .u64 0, .int .u64 0]))))
      refine bodyPost_ret (results_ct rfl _ _ w.heap.size 32 #[.int .i64 0, .string ⟨#[]⟩, .int .i64 0, .int .u64 0, .int .u64 0] (0, 0) _ rfl HZ.out.blk Try.underlying32 rfl (by kernel_rfl)) rfl ?_
      exact ⟨by rw [HFZ.out]; rfl, HZ.out.below⟩
  · have d6 : (r2 != 0) = true := by rw [bne_iff_ne]; exact hz
    have d7 : (r2 == 0) = false := by rw [beq_eq_false_iff_ne]; exact hz
    have HFZ := Aside0.mk (show firstF b = zeroR by rw [HF2.out, if_neg (fun h => hz h.2.1)])
    clear hz
    go_wp2_with (first | (go_at_call 9; go_loud ((with_reducible refine (commitlog_Encode.calls 0 (a : Int) id (m : Int) (v1 : Int) (s1 : Int) r1 r2 w11b HEN.out).mono ?_); rintro e w12 ⟨vr, rfl, hrr, hbb⟩; obtain ⟨A3, c3, rfl⟩ := Kd.R_slice hrr; have hs12 := K11.out.made hbb hrr; obtain ⟨_, _, _, _, hfo⟩ := Fl.open (hs12.nth 1 rfl); have yo := hfo.cell 1 (v := .bool true) rfl; have jj0 := (hs12.nth 2 rfl).cell 0 (v := .int .i64 (a : Nat)) rfl; have jj1 := (hs12.nth 2 rfl).cell 1 (v := .string id) rfl; have jj2 := (hs12.nth 2 rfl).cell 2 (v := .int .i64 (m : Nat)) rfl; have jj3 := (hs12.nth 2 rfl).cell 3 (v := .int .u64 (v1 : Nat)) rfl; have jj4 := (hs12.nth 2 rfl).cell 4 (v := .int .u64 (s1 : Nat)) rfl; have H12 : Aside0 (Sat w w12 (Row (Kd.int .u8) 5 (.slice A3 r1.length c3) r1 :: Fl w gf x6 true :: Blk (w.heap.size + 1) #[.int .i64 (a : Nat), .string id, .int .i64 (m : Nat), .int .u64 (v1 : Nat), .int .u64 (s1 : Nat)] 32 :: Blk w.heap.size #[.int .i64 0, .string ⟨#[]⟩, .int .i64 0, .int .u64 0, .int .u64 0] 32 :: [])) := ⟨hs12⟩; clear hs12 hfo hrr hbb)) | ((with_reducible refine gate_store (p := 2) rfl ?_); go_loud (refine wpList_store_row rfl 32 (.tmp 2) (.tmp 88) rfl w.heap.size #[.int .i64 0, .string ⟨#[]⟩, .int .i64 0, .int .u64 0, .int .u64 0] rfl rfl 32 _ (H12.out.nth 3 rfl).blk (by kernel_rfl) rfl (by simp [Value.oneCell']) ?_; have HZ := Aside0.mk (Sat.setRow (H12.out.nth 3 rfl) #[.int .i64 0, .string ⟨#[]⟩, .int .i64 0, .int .u64 0, .int .u64 0]))))
    refine bodyPost_ret (results_ct rfl _ _ w.heap.size 32 #[.int .i64 0, .string ⟨#[]⟩, .int .i64 0, .int .u64 0, .int .u64 0] (0, 0) _ rfl HZ.out.blk Try.underlying32 rfl (by kernel_rfl)) rfl ?_
    exact ⟨by rw [HFZ.out]; rfl, HZ.out.below⟩
end Go.Proofs.Ytnkcdopjhjmdnaa.CfW
namespace Go.Proofs.Ytnkcdopjhjmdnaa.QB
open Go.RowKit Go.Proofs.YtnkcdopjhjmdnaaW.PrintWords Go.Proofs.YtnkcdopjhjmdnaaW.PrintLast Go.Proofs.YtnkcdopjhjmdnaaW.PrintMore Go.Proofs.Ytnkcdopjhjmdnaa.Uv Go.Proofs.Ytnkcdopjhjmdnaa.UvP Go.Proofs.Ytnkcdopjhjmdnaa.CfW
set_option linter.unusedVariables false
def commitlog_first.f (l0 : List Int) : Option (Int × ByteArray × Int × Int × Int × Int) := if l0.length ≤ 1000000 ∧ (l0.all fun x => decide (0 ≤ x ∧ x < 256)) = true then some (firstF l0) else none
theorem commitlog_first.calls (A0 : Option Addr) (c0 : Nat) (l0 : List Int) (r1 : Int) (r2 : ByteArray) (r3 : Int) (r4 : Int) (r5 : Int) (r6 : Int) (w : World) (hr0 : Kd.C (Kd.int .u8) w A0 l0.length l0) (hc0 : l0.length ≤ c0) (h : commitlog_first.f l0 = some (r1, r2, r3, r4, r5, r6)) :
    Calls Try.prog 11 #[.slice A0 l0.length c0] w fun e w' => e = .returned (.tuple #[.agg #[.int .i64 r1, .string r2, .int .i64 r3, .int .u64 r4, .int .u64 r5], .int .i64 r6]) ∧ Below w.heap.size w w' := by
  unfold commitlog_first.f at h
  split at h
  · rename_i hz
    have hb : Bytes l0 := fun x hx => by
      have := List.all_eq_true.1 hz.2 x hx
      simpa using this
    have h := Option.some.inj h
    have hc := first_calls w A0 c0 l0 hr0 hc0 hb hz.1
    rw [h] at hc
    exact hc
  · cases h
theorem commitlog_first.f_eq {l : List Int} (hb : Bytes l) (hl : l.length ≤ 1000000) : commitlog_first.f l = some (firstF l) := by
  unfold commitlog_first.f
  rw [if_pos ⟨hl, List.all_eq_true.2 (fun x hx => by simpa using hb x hx)⟩]
end Go.Proofs.Ytnkcdopjhjmdnaa.QB
