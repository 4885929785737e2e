/- What the call of the document's one record comes to; as a Lean function laid by hand (a stand-in for the printer). -/
import Derived.Test.YtnkcdopjhjmdnaaCpP
import Derived.Test.YtnkcdopjhjmdnaaRuQ
namespace Go.Proofs.Ytnkcdopjhjmdnaa.CoW
open Go.RowKit Go.Proofs.YtnkcdopjhjmdnaaW.PrintWords Go.Proofs.YtnkcdopjhjmdnaaW.PrintLast Go.Proofs.YtnkcdopjhjmdnaaW.PrintMore Go.Proofs.Ytnkcdopjhjmdnaa.QB Go.Proofs.Ytnkcdopjhjmdnaa.Sl Go.Proofs.Ytnkcdopjhjmdnaa.Uv Go.Proofs.Ytnkcdopjhjmdnaa.UvP Go.Proofs.Ytnkcdopjhjmdnaa.RuW Go.Proofs.Ytnkcdopjhjmdnaa.CeW Go.Proofs.Ytnkcdopjhjmdnaa.CfW Go.Proofs.Ytnkcdopjhjmdnaa.CpP
set_option linter.unusedVariables false
set_option linter.unusedSimpArgs false

def one3 (bt : List Int) (e : Nat) (sp : Int) (id : ByteArray) (x : List Int) : Int × ByteArray × Int × Int × Int × Int :=
  if (ruv x).2 = 0 ∨ 1099511627776 < (ruv x).1 ∨ (x.length : Int) ≠ (ruv x).2 + 16 then (sp, id, 0, 0, 0, 0) else
    let v : Nat := big ((x.drop (ruv x).2.toNat).take 8)
    let s : Nat := big ((x.drop ((ruv x).2.toNat + 8)).take 8)
    let r := encE sp id (ruv x).1 v s
    if r.2 = 0 ∧ r.1 = bt then (sp, id, (ruv x).1, v, s, e) else (sp, id, (ruv x).1, v, s, 0)
def one2 (bt : List Int) (e : Nat) (sp : Int) (x : List Int) : Int × ByteArray × Int × Int × Int × Int :=
  if (ruv x).2 = 0 ∨ (ruv x).1 < 1 ∨ 16 < (ruv x).1 ∨ (x.length : Int) < (ruv x).2 + (ruv x).1 then (sp, ⟨#[]⟩, 0, 0, 0, 0) else
    one3 bt e sp (strOfNums ((x.take ((ruv x).2.toNat + (ruv x).1.toNat)).drop (ruv x).2.toNat)) (x.drop ((ruv x).2.toNat + (ruv x).1.toNat))
def one1 (bt : List Int) (e : Nat) (x : List Int) : Int × ByteArray × Int × Int × Int × Int :=
  if (ruv x).2 = 0 ∨ 4 ≤ (ruv x).1 then zeroR else one2 bt e (ruv x).1 (x.drop (ruv x).2.toNat)
def oneF (b : List Int) : Int × ByteArray × Int × Int × Int × Int :=
  if (ruv b).2 = 0 ∨ 64 < (ruv b).1 ∨ (b.length : Int) < (ruv b).2 + 4 + (ruv b).1 then zeroR else
    one1 (b.take ((ruv b).2.toNat + 4 + (ruv b).1.toNat)) ((ruv b).2.toNat + 4 + (ruv b).1.toNat) ((b.take ((ruv b).2.toNat + 4 + (ruv b).1.toNat)).drop ((ruv b).2.toNat + 4))
def One.T20 : Bool × List (List Nat × List Nat) := (true, [([], []), ([0], [0]), ([], []), ([], []), ([2, 3], [2, 3]), ([4], [4]), ([], []), ([], []), ([7], [7]), ([6, 8], [6, 8]), ([9, 5], [9]), ([1, 5, 10], [1, 5, 10]), ([0, 1, 2, 3, 4, 5, 6, 7, 8, 9, 10, 11], []), ([12, 11, 10, 0, 1, 2, 3, 4, 5, 6, 7, 8, 9, 10, 11], [11, 12])])
def One.B20 : List Nat := [0, 1, 0, 0, 12, 28, 0, 0, 128, 448, 1020, 2047, 4095, 8191]
theorem One.tab20 : rtab .any (opsOf Try.f12 20) = One.T20 := by kernel_rfl
theorem One.bits20 : waitsOk One.T20.2 One.B20 = true := by kernel_rfl
def One.T22 : Bool × List (List Nat × List Nat) := (true, [([], []), ([0], [0]), ([1], [1]), ([2], [2]), ([3, 2], [2, 3]), ([2], [2]), ([2], [2]), ([5, 6, 2], [2, 5, 6]), ([7, 2], [2, 7]), ([4, 8, 2], [2, 4, 8]), ([2, 9], [2, 9])])
def One.B22 : List Nat := [0, 1, 3, 7, 15, 7, 7, 103, 231, 511, 1023]
theorem One.tab22 : rtab .any (opsOf Try.f12 22) = One.T22 := by kernel_rfl
theorem One.bits22 : waitsOk One.T22.2 One.B22 = true := by kernel_rfl
set_option maxHeartbeats 8000000 in
set_option maxRecDepth 100000 in
theorem one_calls (w : World) (A : Option Addr) (c : Nat) (b : List Int) (hC : Kd.C (Kd.int .u8) w A b.length b) (hc : b.length ≤ c) (hby : Bytes b) (hb : b.length ≤ 1000000) :
    Calls Try.prog 12 #[.slice A b.length c] w fun e w' => e = .returned (.tuple #[.agg #[.int .i64 (oneF b).1, .string (oneF b).2.1, .int .i64 (oneF b).2.2.1, .int .u64 (oneF b).2.2.2.1, .int .u64 (oneF b).2.2.2.2.1], .int .i64 (oneF b).2.2.2.2.2]) ∧ Below w.heap.size w w' := by
  obtain ⟨v, n, hv, hn, hl⟩ := ruv_parts hby
  have hf := thermographref03_ReadUvarint.f_eq hby (by omega) 30
  rw [hv] at hf
  have HF := Aside0.mk hf
  have HC := Aside0.mk hC
  have h0 := ((Sat.start w).newBlk #[.int .i64 0, .string ⟨#[]⟩, .int .i64 0, .int .u64 0, .int .u64 0] 32).newBlk #[.int .i64 0, .string ⟨#[]⟩, .int .i64 0, .int .u64 0, .int .u64 0] 32
  have hsz : (w.alloc (.cells #[.int .i64 0, .string ⟨#[]⟩, .int .i64 0, .int .u64 0, .int .u64 0] 32)).heap.size = w.heap.size + 1 := Array.size_push _
  rw [hsz] at h0
  have H0 : Aside0 (Sat w ((w.alloc (.cells #[.int .i64 0, .string ⟨#[]⟩, .int .i64 0, .int .u64 0, .int .u64 0] 32)).alloc (.cells #[.int .i64 0, .string ⟨#[]⟩, .int .i64 0, .int .u64 0, .int .u64 0] 32)) (Blk (w.heap.size + 1) #[.int .i64 0, .string ⟨#[]⟩, .int .i64 0, .int .u64 0, .int .u64 0] 32 :: Blk w.heap.size #[.int .i64 0, .string ⟨#[]⟩, .int .i64 0, .int .u64 0, .int .u64 0] 32 :: [])) := ⟨h0⟩
  by_cases e1 : n = 0
  · have HFI := Aside0.mk (show oneF b = zeroR by unfold oneF; rw [hv]; simp only; rw [if_pos (.inl (by omega))])
    have d1 : ((n : Int) == 0) = true := by rw [beq_iff_eq]; omega
    clear hv hf hC hby h0 hsz e1
    go_enter Try.func12, Try.ntmps12
    go_wp2_with (first | (go_at_call 26; go_loud ((with_reducible refine (thermographref03_ReadUvarint.calls 30 A c b (v : Int) (n : Int) _ (Kd.C_below HC.out H0.out.below) hc HF.out).mono ?_); rintro e w1 ⟨rfl, hb_⟩; have H1 := Aside0.mk (H0.out.step hb_); clear hb_; have kk0 := (H1.out).cell 0 (v := .int .i64 0) rfl; have kk1 := (H1.out).cell 1 (v := .string ⟨#[]⟩) rfl; have kk2 := (H1.out).cell 2 (v := .int .i64 0) rfl; have kk3 := (H1.out).cell 3 (v := .int .u64 0) rfl; have kk4 := (H1.out).cell 4 (v := .int .u64 0) rfl; have f0 := H1.out.free 0; have f1 := H1.out.free 1)) | ((with_reducible refine gate_store (p := 2) rfl ?_); go_loud (refine wpList_store_row rfl 32 (.tmp 2) (.tmp 35) rfl w.heap.size #[.int .i64 0, .string ⟨#[]⟩, .int .i64 0, .int .u64 0, .int .u64 0] rfl rfl 32 _ (H1.out.nth 1 rfl).blk (by kernel_rfl) rfl (by simp [Value.oneCell']) ?_; have HZ := Aside0.mk (Sat.setRow (H1.out.nth 1 rfl) #[.int .i64 0, .string ⟨#[]⟩, .int .i64 0, .int .u64 0, .int .u64 0]))))
    refine bodyPost_ret (results_ct rfl _ _ w.heap.size 32 #[.int .i64 0, .string ⟨#[]⟩, .int .i64 0, .int .u64 0, .int .u64 0] (0, 0) _ rfl HZ.out.blk Try.underlying32 rfl (by kernel_rfl)) rfl ?_
    exact ⟨by rw [HFI.out]; rfl, HZ.out.below⟩
  have d1 : ((n : Int) == 0) = false := by rw [beq_eq_false_iff_ne]; omega
  by_cases e2 : 64 < v
  · have HFI := Aside0.mk (show oneF b = zeroR by unfold oneF; rw [hv]; simp only; rw [if_pos (.inr (.inl (by omega)))])
    have d2 : decide ((64 : Int) < (v : Int)) = true := decide_eq_true (by omega)
    have d3 : decide (64 < v) = true := decide_eq_true e2
    clear hv hf hC hby h0 hsz e2 e1
    go_enter Try.func12, Try.ntmps12
    go_wp2_with (first | (go_at_call 26; go_loud ((with_reducible refine (thermographref03_ReadUvarint.calls 30 A c b (v : Int) (n : Int) _ (Kd.C_below HC.out H0.out.below) hc HF.out).mono ?_); rintro e w1 ⟨rfl, hb_⟩; have H1 := Aside0.mk (H0.out.step hb_); clear hb_; have kk0 := (H1.out).cell 0 (v := .int .i64 0) rfl; have kk1 := (H1.out).cell 1 (v := .string ⟨#[]⟩) rfl; have kk2 := (H1.out).cell 2 (v := .int .i64 0) rfl; have kk3 := (H1.out).cell 3 (v := .int .u64 0) rfl; have kk4 := (H1.out).cell 4 (v := .int .u64 0) rfl; have f0 := H1.out.free 0; have f1 := H1.out.free 1)) | ((with_reducible refine gate_store (p := 2) rfl ?_); go_loud (refine wpList_store_row rfl 32 (.tmp 2) (.tmp 35) rfl w.heap.size #[.int .i64 0, .string ⟨#[]⟩, .int .i64 0, .int .u64 0, .int .u64 0] rfl rfl 32 _ (H1.out.nth 1 rfl).blk (by kernel_rfl) rfl (by simp [Value.oneCell']) ?_; have HZ := Aside0.mk (Sat.setRow (H1.out.nth 1 rfl) #[.int .i64 0, .string ⟨#[]⟩, .int .i64 0, .int .u64 0, .int .u64 0]))))
    refine bodyPost_ret (results_ct rfl _ _ w.heap.size 32 #[.int .i64 0, .string ⟨#[]⟩, .int .i64 0, .int .u64 0, .int .u64 0] (0, 0) _ rfl HZ.out.blk Try.underlying32 rfl (by kernel_rfl)) rfl ?_
    exact ⟨by rw [HFI.out]; rfl, HZ.out.below⟩
  have d2 : decide ((64 : Int) < (v : Int)) = false := decide_eq_false (by omega)
  have d3 : decide (64 < v) = false := decide_eq_false e2
  by_cases e3 : b.length < n + 4 + v
  · have HFI := Aside0.mk (show oneF b = zeroR by unfold oneF; rw [hv]; simp only; rw [if_pos (.inr (.inr (by omega)))])
    have d4 : decide ((b.length : Int) < (n : Int) + 4 + (v : Int)) = true := decide_eq_true (by omega)
    have d5 : decide (b.length < n + 4 + v) = true := decide_eq_true e3
    clear hv hf hC hby h0 hsz e1
    go_enter Try.func12, Try.ntmps12
    go_wp2_with (first | (go_at_call 26; go_loud ((with_reducible refine (thermographref03_ReadUvarint.calls 30 A c b (v : Int) (n : Int) _ (Kd.C_below HC.out H0.out.below) hc HF.out).mono ?_); rintro e w1 ⟨rfl, hb_⟩; have H1 := Aside0.mk (H0.out.step hb_); clear hb_; have kk0 := (H1.out).cell 0 (v := .int .i64 0) rfl; have kk1 := (H1.out).cell 1 (v := .string ⟨#[]⟩) rfl; have kk2 := (H1.out).cell 2 (v := .int .i64 0) rfl; have kk3 := (H1.out).cell 3 (v := .int .u64 0) rfl; have kk4 := (H1.out).cell 4 (v := .int .u64 0) rfl; have f0 := H1.out.free 0; have f1 := H1.out.free 1)) | ((with_reducible refine gate_store (p := 2) rfl ?_); go_loud (refine wpList_store_row rfl 32 (.tmp 2) (.tmp 35) rfl w.heap.size #[.int .i64 0, .string ⟨#[]⟩, .int .i64 0, .int .u64 0, .int .u64 0] rfl rfl 32 _ (H1.out.nth 1 rfl).blk (by kernel_rfl) rfl (by simp [Value.oneCell']) ?_; have HZ := Aside0.mk (Sat.setRow (H1.out.nth 1 rfl) #[.int .i64 0, .string ⟨#[]⟩, .int .i64 0, .int .u64 0, .int .u64 0]))))
    refine bodyPost_ret (results_ct rfl _ _ w.heap.size 32 #[.int .i64 0, .string ⟨#[]⟩, .int .i64 0, .int .u64 0, .int .u64 0] (0, 0) _ rfl HZ.out.blk Try.underlying32 rfl (by kernel_rfl)) rfl ?_
    exact ⟨by rw [HFI.out]; rfl, HZ.out.below⟩
  have d4 : decide ((b.length : Int) < (n : Int) + 4 + (v : Int)) = false := decide_eq_false (by omega)
  have d5 : decide (b.length < n + 4 + v) = false := decide_eq_false e3
  have hE : n + 4 + v ≤ b.length := by omega
  obtain ⟨i0, hi0, _, hsz1, _⟩ := info_parts UvPinfo
  have cm := cut_mid (P := Try.prog) 22 5 Try.underlying22 hi0 hsz1 A b.length c (n + 4) (n + 4 + v) ((n : Int) + 4) ((n : Int) + 4 + (v : Int)) (by omega) (by omega) (by omega) (by omega)
  have ct := cut_to (P := Try.prog) 22 5 .i64 Try.underlying22 hi0 A b.length c ((n : Int) + 4 + (v : Int)) (by omega) (by omega) hc
  rw [show ((n : Int) + 4 + (v : Int)).toNat = n + 4 + v by omega] at ct
  have hCm := Kd.C_mid (lo := n + 4) (hi := n + 4 + v) hC (by omega) (by omega) hc
  have hlx : ((b.take (n + 4 + v)).drop (n + 4)).length = v := by rw [List.length_drop, List.length_take]; omega
  have hCt := Kd.C_take (m := n + 4 + v) hC (by omega)
  have hlt : (b.take (n + 4 + v)).length = n + 4 + v := by rw [List.length_take]; omega
  have hbx : Bytes ((b.take (n + 4 + v)).drop (n + 4)) := Bytes.drop (Bytes.take hby _) _
  have hbbt : Bytes (b.take (n + 4 + v)) := Bytes.take hby _
  have hFI : oneF b = one1 (b.take (n + 4 + v)) (n + 4 + v) ((b.take (n + 4 + v)).drop (n + 4)) := by
    unfold oneF
    rw [hv]
    simp only [Int.toNat_natCast]
    rw [if_neg (by omega)]
  obtain ⟨A2, hA2⟩ : ∃ A2, A2 = (if c = n + 4 then A else (A : Option Addr).map (·.add ((n + 4) * 1))) := ⟨_, rfl⟩
  rw [← hA2] at cm
  have hCm2 : Kd.C (Kd.int .u8) w A2 ((b.take (n + 4 + v)).drop (n + 4)).length ((b.take (n + 4 + v)).drop (n + 4)) := by rw [hA2]; exact hCm
  obtain ⟨x, hx⟩ : ∃ x, (b.take (n + 4 + v)).drop (n + 4) = x := ⟨_, rfl⟩
  obtain ⟨bt, hbt⟩ : ∃ bt, b.take (n + 4 + v) = bt := ⟨_, rfl⟩
  rw [hx] at hCm2 hlx hbx hFI
  rw [hbt] at hCt hlt hFI hbbt
  obtain ⟨c2, hc2⟩ : ∃ c2, c - (n + 4) = c2 := ⟨_, rfl⟩
  have hcc : x.length ≤ c2 := by omega
  rw [show n + 4 + v - (n + 4) = x.length by omega, hc2] at cm
  have cst := Kd.C_string (P := Try.prog) (src := 22) (dst := 9) (c := c) Try.underlying22 Try.underlying5 Try.underlying9 hCt
  have HCX := Aside0.mk hCm2
  have HCT := Aside0.mk hCt
  have HLT := Aside0.mk hlt
  have HBT := Aside0.mk hbbt
  have HCS := Aside0.mk cst
  have hvi : IntKind.i64.wrap (v : Int) = (v : Int) := by rw [IntKind.wrap_i64]; omega
  have hxl : x.length ≤ 1000000 := by omega
  obtain ⟨v1, n1, hv1, hn1, hl1⟩ := ruv_parts hbx
  have hf1 := thermographref03_ReadUvarint.f_eq hbx (by omega) 30
  rw [hv1] at hf1
  have HF1 := Aside0.mk hf1
  have HV1 := Aside0.mk hv1
  have HBX := Aside0.mk hbx
  have HFI := Aside0.mk hFI
  clear hv hf hC hby h0 hsz e1 e2 e3 hCm hCt hCm2 hA2 hx hbt hc2 hlt hlx hv1 hf1 hbx hFI hbbt cst
  go_enter Try.func12, Try.ntmps12
  go_upto_region 7 with (first | (go_at_call 26; go_loud ((with_reducible refine (thermographref03_ReadUvarint.calls 30 A c b (v : Int) (n : Int) _ (Kd.C_below HC.out H0.out.below) hc HF.out).mono ?_); rintro e w1 ⟨rfl, hb_⟩; have H1 := Aside0.mk (H0.out.step hb_); clear hb_; have kk0 := (H1.out).cell 0 (v := .int .i64 0) rfl; have kk1 := (H1.out).cell 1 (v := .string ⟨#[]⟩) rfl; have kk2 := (H1.out).cell 2 (v := .int .i64 0) rfl; have kk3 := (H1.out).cell 3 (v := .int .u64 0) rfl; have kk4 := (H1.out).cell 4 (v := .int .u64 0) rfl; have f0 := H1.out.free 0; have f1 := H1.out.free 1)))
  clear kk0 kk1 kk2 kk3 kk4 f0 f1 cm
  by_cases a1 : n1 = 0
  · have HFI := Aside0.mk (show oneF b = zeroR by rw [HFI.out]; unfold one1; rw [HV1.out]; simp only; rw [if_pos (.inl (by omega))])
    have g1 : ((n1 : Int) == 0) = true := by rw [beq_iff_eq]; omega
    clear a1
    go_wp2_with (first | (go_at_call 26; go_loud ((with_reducible refine (thermographref03_ReadUvarint.calls 30 A2 c2 x (v1 : Int) (n1 : Int) _ (Kd.C_below HCX.out H1.out.below) hcc HF1.out).mono ?_); rintro e w2 ⟨rfl, hb_⟩; have H2 := Aside0.mk (H1.out.step hb_); clear hb_; have kk0 := (H2.out).cell 0 (v := .int .i64 0) rfl; have kk1 := (H2.out).cell 1 (v := .string ⟨#[]⟩) rfl; have kk2 := (H2.out).cell 2 (v := .int .i64 0) rfl; have kk3 := (H2.out).cell 3 (v := .int .u64 0) rfl; have kk4 := (H2.out).cell 4 (v := .int .u64 0) rfl; have f0 := H2.out.free 0; have f1 := H2.out.free 1)) | ((with_reducible refine gate_store (p := 2) rfl ?_); go_loud (refine wpList_store_row rfl 32 (.tmp 2) (.tmp 57) rfl w.heap.size #[.int .i64 0, .string ⟨#[]⟩, .int .i64 0, .int .u64 0, .int .u64 0] rfl rfl 32 _ (H2.out.nth 1 rfl).blk (by kernel_rfl) rfl (by simp [Value.oneCell']) ?_; have HZ := Aside0.mk (Sat.setRow (H2.out.nth 1 rfl) #[.int .i64 0, .string ⟨#[]⟩, .int .i64 0, .int .u64 0, .int .u64 0]))))
    refine bodyPost_ret (results_ct rfl _ _ w.heap.size 32 #[.int .i64 0, .string ⟨#[]⟩, .int .i64 0, .int .u64 0, .int .u64 0] (0, 0) _ rfl HZ.out.blk Try.underlying32 rfl (by kernel_rfl)) rfl ?_
    exact ⟨by rw [HFI.out]; rfl, HZ.out.below⟩
  have g1 : ((n1 : Int) == 0) = false := by rw [beq_eq_false_iff_ne]; omega
  by_cases a2 : 4 ≤ v1
  · have HFI := Aside0.mk (show oneF b = zeroR by rw [HFI.out]; unfold one1; rw [HV1.out]; simp only; rw [if_pos (.inr (by omega))])
    have d_53648 : decide ((4 : Int) ≤ (v1 : Int)) = true := decide_eq_true (by omega)
    have d_86706 : decide (4 ≤ v1) = true := decide_eq_true (by omega)
    clear a2
    go_wp2_with (first | (go_at_call 26; go_loud ((with_reducible refine (thermographref03_ReadUvarint.calls 30 A2 c2 x (v1 : Int) (n1 : Int) _ (Kd.C_below HCX.out H1.out.below) hcc HF1.out).mono ?_); rintro e w2 ⟨rfl, hb_⟩; have H2 := Aside0.mk (H1.out.step hb_); clear hb_; have kk0 := (H2.out).cell 0 (v := .int .i64 0) rfl; have kk1 := (H2.out).cell 1 (v := .string ⟨#[]⟩) rfl; have kk2 := (H2.out).cell 2 (v := .int .i64 0) rfl; have kk3 := (H2.out).cell 3 (v := .int .u64 0) rfl; have kk4 := (H2.out).cell 4 (v := .int .u64 0) rfl; have f0 := H2.out.free 0; have f1 := H2.out.free 1)) | ((with_reducible refine gate_store (p := 2) rfl ?_); go_loud (refine wpList_store_row rfl 32 (.tmp 2) (.tmp 57) rfl w.heap.size #[.int .i64 0, .string ⟨#[]⟩, .int .i64 0, .int .u64 0, .int .u64 0] rfl rfl 32 _ (H2.out.nth 1 rfl).blk (by kernel_rfl) rfl (by simp [Value.oneCell']) ?_; have HZ := Aside0.mk (Sat.setRow (H2.out.nth 1 rfl) #[.int .i64 0, .string ⟨#[]⟩, .int .i64 0, .int .u64 0, .int .u64 0]))))
    refine bodyPost_ret (results_ct rfl _ _ w.heap.size 32 #[.int .i64 0, .string ⟨#[]⟩, .int .i64 0, .int .u64 0, .int .u64 0] (0, 0) _ rfl HZ.out.blk Try.underlying32 rfl (by kernel_rfl)) rfl ?_
    exact ⟨by rw [HFI.out]; rfl, HZ.out.below⟩
  have d_53648 : decide ((4 : Int) ≤ (v1 : Int)) = false := decide_eq_false (by omega)
  have d_86706 : decide (4 ≤ v1) = false := decide_eq_false (by omega)
  have hvi1 : IntKind.i64.wrap (v1 : Int) = (v1 : Int) := by rw [IntKind.wrap_i64]; omega
  have hFI1 : oneF b = one2 bt (n + 4 + v) (v1 : Int) (x.drop n1) := by
    rw [HFI.out]; unfold one1; rw [HV1.out]; simp only [Int.toNat_natCast]; rw [if_neg (by omega)]
  have cf := cut_from (P := Try.prog) 22 5 .i64 Try.underlying22 hi0 1 hsz1 A2 x.length c2 (n1 : Int) (by omega) (by omega)
  simp only [Int.toNat_natCast] at cf
  have hCd := Kd.C_drop (m := n1) HCX.out hn1 hcc
  have hB1 := Bytes.drop HBX.out n1
  have hl1x : (x.drop n1).length = x.length - n1 := List.length_drop
  obtain ⟨A3, hA3⟩ : ∃ A3, A3 = (if c2 = n1 then A2 else (A2 : Option Addr).map (·.add (n1 * 1))) := ⟨_, rfl⟩
  have hCd2 : Kd.C (Kd.int .u8) w A3 (x.drop n1).length (x.drop n1) := by rw [hA3]; exact hCd
  rw [← hA3, ← hl1x] at cf
  have hcc1 : (x.drop n1).length ≤ c2 - n1 := by omega
  have hx1l : (x.drop n1).length ≤ 1000000 := by omega
  obtain ⟨x1, hx1⟩ : ∃ y, x.drop n1 = y := ⟨_, rfl⟩
  obtain ⟨c3, hc3⟩ : ∃ y, c2 - n1 = y := ⟨_, rfl⟩
  rw [hx1] at cf hCd2 hB1 hFI1 hcc1 hx1l
  rw [hc3] at cf hcc1
  have HCX1 := Aside0.mk hCd2
  have HBX1 := Aside0.mk hB1
  have HFI1 := Aside0.mk hFI1
  obtain ⟨v2, n2, hv2, hn2, hl2⟩ := ruv_parts hB1
  have hf2 := thermographref03_ReadUvarint.f_eq hB1 (by omega) 30
  rw [hv2] at hf2
  have HF2 := Aside0.mk hf2
  have HV2 := Aside0.mk hv2
  clear hCd hCd2 hB1 hl1x hA3 hFI1 hx1 hc3 hv2 hf2 a1 a2
  go_upto_region 12 with (first | (go_at_call 26; go_loud ((with_reducible refine (thermographref03_ReadUvarint.calls 30 A2 c2 x (v1 : Int) (n1 : Int) _ (Kd.C_below HCX.out H1.out.below) hcc HF1.out).mono ?_); rintro e w2 ⟨rfl, hb_⟩; have H2 := Aside0.mk (H1.out.step hb_); clear hb_; have kk0 := (H2.out).cell 0 (v := .int .i64 0) rfl; have kk1 := (H2.out).cell 1 (v := .string ⟨#[]⟩) rfl; have kk2 := (H2.out).cell 2 (v := .int .i64 0) rfl; have kk3 := (H2.out).cell 3 (v := .int .u64 0) rfl; have kk4 := (H2.out).cell 4 (v := .int .u64 0) rfl; have f0 := H2.out.free 0; have f1 := H2.out.free 1)))
  have H3 : Aside0 (Sat w (w2.setCell ⟨w.heap.size + 1, 0, none⟩ (.int .i64 (v1 : Nat))) (Blk (w.heap.size + 1) #[.int .i64 (v1 : Nat), .string ⟨#[]⟩, .int .i64 0, .int .u64 0, .int .u64 0] 32 :: Blk w.heap.size #[.int .i64 0, .string ⟨#[]⟩, .int .i64 0, .int .u64 0, .int .u64 0] 32 :: [])) := ⟨H2.out.setBlk 0 (.int .i64 (v1 : Nat))⟩
  clear kk0 kk1 kk2 kk3 kk4 f0 f1 cf H2 H1
  generalize w2.setCell ⟨w.heap.size + 1, 0, none⟩ (.int .i64 (v1 : Nat)) = w2b at H3 ⊢
  by_cases a1 : n2 = 0
  · have HFI := Aside0.mk (show oneF b = ((v1 : Int), ⟨#[]⟩, 0, 0, 0, 0) by rw [HFI1.out]; unfold one2; rw [HV2.out]; simp only; rw [if_pos (.inl (by omega))])
    have g2 : ((n2 : Int) == 0) = true := by rw [beq_iff_eq]; omega
    clear a1
    go_wp2_with (first | (go_at_call 26; go_loud ((with_reducible refine (thermographref03_ReadUvarint.calls 30 A3 c3 x1 (v2 : Int) (n2 : Int) _ (Kd.C_below HCX1.out H3.out.below) hcc1 HF2.out).mono ?_); rintro e w4 ⟨rfl, hb_⟩; have H4 := Aside0.mk (H3.out.step hb_); clear hb_; have kk0 := (H4.out).cell 0 (v := .int .i64 (v1 : Nat)) rfl; have kk1 := (H4.out).cell 1 (v := .string ⟨#[]⟩) rfl; have kk2 := (H4.out).cell 2 (v := .int .i64 0) rfl; have kk3 := (H4.out).cell 3 (v := .int .u64 0) rfl; have kk4 := (H4.out).cell 4 (v := .int .u64 0) rfl; have f0 := H4.out.free 0; have f1 := H4.out.free 1)) | ((with_reducible refine gate_store (p := 2) rfl ?_); go_loud (refine wpList_store_row rfl 32 (.tmp 2) (.tmp 88) rfl w.heap.size #[.int .i64 (v1 : Nat), .string ⟨#[]⟩, .int .i64 0, .int .u64 0, .int .u64 0] rfl rfl 32 _ (H4.out.nth 1 rfl).blk (by kernel_rfl) rfl (by simp [Value.oneCell']) ?_; have HZ := Aside0.mk (Sat.setRow (H4.out.nth 1 rfl) #[.int .i64 (v1 : Nat), .string ⟨#[]⟩, .int .i64 0, .int .u64 0, .int .u64 0]))))
    refine bodyPost_ret (results_ct rfl _ _ w.heap.size 32 #[.int .i64 (v1 : Nat), .string ⟨#[]⟩, .int .i64 0, .int .u64 0, .int .u64 0] (0, 0) _ rfl HZ.out.blk Try.underlying32 rfl (by kernel_rfl)) rfl ?_
    exact ⟨by rw [HFI.out]; rfl, HZ.out.below⟩
  have g2 : ((n2 : Int) == 0) = false := by rw [beq_eq_false_iff_ne]; omega
  by_cases a2 : v2 < 1
  · have HFI := Aside0.mk (show oneF b = ((v1 : Int), ⟨#[]⟩, 0, 0, 0, 0) by rw [HFI1.out]; unfold one2; rw [HV2.out]; simp only; rw [if_pos (.inr (.inl (by omega)))])
    have d_87536 : decide ((v2 : Int) < 1) = true := decide_eq_true (by omega)
    have d_50528 : decide (v2 < 1) = true := decide_eq_true (by omega)
    have d_v20 : decide (v2 = 0) = true := decide_eq_true (by omega)
    clear a2
    go_wp2_with (first | (go_at_call 26; go_loud ((with_reducible refine (thermographref03_ReadUvarint.calls 30 A3 c3 x1 (v2 : Int) (n2 : Int) _ (Kd.C_below HCX1.out H3.out.below) hcc1 HF2.out).mono ?_); rintro e w4 ⟨rfl, hb_⟩; have H4 := Aside0.mk (H3.out.step hb_); clear hb_; have kk0 := (H4.out).cell 0 (v := .int .i64 (v1 : Nat)) rfl; have kk1 := (H4.out).cell 1 (v := .string ⟨#[]⟩) rfl; have kk2 := (H4.out).cell 2 (v := .int .i64 0) rfl; have kk3 := (H4.out).cell 3 (v := .int .u64 0) rfl; have kk4 := (H4.out).cell 4 (v := .int .u64 0) rfl; have f0 := H4.out.free 0; have f1 := H4.out.free 1)) | ((with_reducible refine gate_store (p := 2) rfl ?_); go_loud (refine wpList_store_row rfl 32 (.tmp 2) (.tmp 88) rfl w.heap.size #[.int .i64 (v1 : Nat), .string ⟨#[]⟩, .int .i64 0, .int .u64 0, .int .u64 0] rfl rfl 32 _ (H4.out.nth 1 rfl).blk (by kernel_rfl) rfl (by simp [Value.oneCell']) ?_; have HZ := Aside0.mk (Sat.setRow (H4.out.nth 1 rfl) #[.int .i64 (v1 : Nat), .string ⟨#[]⟩, .int .i64 0, .int .u64 0, .int .u64 0]))))
    refine bodyPost_ret (results_ct rfl _ _ w.heap.size 32 #[.int .i64 (v1 : Nat), .string ⟨#[]⟩, .int .i64 0, .int .u64 0, .int .u64 0] (0, 0) _ rfl HZ.out.blk Try.underlying32 rfl (by kernel_rfl)) rfl ?_
    exact ⟨by rw [HFI.out]; rfl, HZ.out.below⟩
  have d_87536 : decide ((v2 : Int) < 1) = false := decide_eq_false (by omega)
  have d_50528 : decide (v2 < 1) = false := decide_eq_false (by omega)
  have d_v20 : decide (v2 = 0) = false := decide_eq_false (by omega)
  by_cases a3 : 16 < v2
  · have HFI := Aside0.mk (show oneF b = ((v1 : Int), ⟨#[]⟩, 0, 0, 0, 0) by rw [HFI1.out]; unfold one2; rw [HV2.out]; simp only; rw [if_pos (.inr (.inr (.inl (by omega))))])
    have d_6210 : decide ((16 : Int) < (v2 : Int)) = true := decide_eq_true (by omega)
    have d_96650 : decide (16 < v2) = true := decide_eq_true (by omega)
    clear a3
    go_wp2_with (first | (go_at_call 26; go_loud ((with_reducible refine (thermographref03_ReadUvarint.calls 30 A3 c3 x1 (v2 : Int) (n2 : Int) _ (Kd.C_below HCX1.out H3.out.below) hcc1 HF2.out).mono ?_); rintro e w4 ⟨rfl, hb_⟩; have H4 := Aside0.mk (H3.out.step hb_); clear hb_; have kk0 := (H4.out).cell 0 (v := .int .i64 (v1 : Nat)) rfl; have kk1 := (H4.out).cell 1 (v := .string ⟨#[]⟩) rfl; have kk2 := (H4.out).cell 2 (v := .int .i64 0) rfl; have kk3 := (H4.out).cell 3 (v := .int .u64 0) rfl; have kk4 := (H4.out).cell 4 (v := .int .u64 0) rfl; have f0 := H4.out.free 0; have f1 := H4.out.free 1)) | ((with_reducible refine gate_store (p := 2) rfl ?_); go_loud (refine wpList_store_row rfl 32 (.tmp 2) (.tmp 88) rfl w.heap.size #[.int .i64 (v1 : Nat), .string ⟨#[]⟩, .int .i64 0, .int .u64 0, .int .u64 0] rfl rfl 32 _ (H4.out.nth 1 rfl).blk (by kernel_rfl) rfl (by simp [Value.oneCell']) ?_; have HZ := Aside0.mk (Sat.setRow (H4.out.nth 1 rfl) #[.int .i64 (v1 : Nat), .string ⟨#[]⟩, .int .i64 0, .int .u64 0, .int .u64 0]))))
    refine bodyPost_ret (results_ct rfl _ _ w.heap.size 32 #[.int .i64 (v1 : Nat), .string ⟨#[]⟩, .int .i64 0, .int .u64 0, .int .u64 0] (0, 0) _ rfl HZ.out.blk Try.underlying32 rfl (by kernel_rfl)) rfl ?_
    exact ⟨by rw [HFI.out]; rfl, HZ.out.below⟩
  have d_6210 : decide ((16 : Int) < (v2 : Int)) = false := decide_eq_false (by omega)
  have d_96650 : decide (16 < v2) = false := decide_eq_false (by omega)
  have hvi2 : IntKind.i64.wrap (v2 : Int) = (v2 : Int) := by rw [IntKind.wrap_i64]; omega
  by_cases a4 : x1.length < n2 + v2
  · have HFI := Aside0.mk (show oneF b = ((v1 : Int), ⟨#[]⟩, 0, 0, 0, 0) by rw [HFI1.out]; unfold one2; rw [HV2.out]; simp only; rw [if_pos (.inr (.inr (.inr (by omega))))])
    have d_5024 : decide ((x1.length : Int) < (n2 : Int) + (v2 : Int)) = true := decide_eq_true (by omega)
    have d_2568 : decide (x1.length < n2 + v2) = true := decide_eq_true (by omega)
    clear a1
    go_wp2_with (first | (go_at_call 26; go_loud ((with_reducible refine (thermographref03_ReadUvarint.calls 30 A3 c3 x1 (v2 : Int) (n2 : Int) _ (Kd.C_below HCX1.out H3.out.below) hcc1 HF2.out).mono ?_); rintro e w4 ⟨rfl, hb_⟩; have H4 := Aside0.mk (H3.out.step hb_); clear hb_; have kk0 := (H4.out).cell 0 (v := .int .i64 (v1 : Nat)) rfl; have kk1 := (H4.out).cell 1 (v := .string ⟨#[]⟩) rfl; have kk2 := (H4.out).cell 2 (v := .int .i64 0) rfl; have kk3 := (H4.out).cell 3 (v := .int .u64 0) rfl; have kk4 := (H4.out).cell 4 (v := .int .u64 0) rfl; have f0 := H4.out.free 0; have f1 := H4.out.free 1)) | ((with_reducible refine gate_store (p := 2) rfl ?_); go_loud (refine wpList_store_row rfl 32 (.tmp 2) (.tmp 88) rfl w.heap.size #[.int .i64 (v1 : Nat), .string ⟨#[]⟩, .int .i64 0, .int .u64 0, .int .u64 0] rfl rfl 32 _ (H4.out.nth 1 rfl).blk (by kernel_rfl) rfl (by simp [Value.oneCell']) ?_; have HZ := Aside0.mk (Sat.setRow (H4.out.nth 1 rfl) #[.int .i64 (v1 : Nat), .string ⟨#[]⟩, .int .i64 0, .int .u64 0, .int .u64 0]))))
    refine bodyPost_ret (results_ct rfl _ _ w.heap.size 32 #[.int .i64 (v1 : Nat), .string ⟨#[]⟩, .int .i64 0, .int .u64 0, .int .u64 0] (0, 0) _ rfl HZ.out.blk Try.underlying32 rfl (by kernel_rfl)) rfl ?_
    exact ⟨by rw [HFI.out]; rfl, HZ.out.below⟩
  have d_5024 : decide ((x1.length : Int) < (n2 : Int) + (v2 : Int)) = false := decide_eq_false (by omega)
  have d_2568 : decide (x1.length < n2 + v2) = false := decide_eq_false (by omega)
  have hFI2 : oneF b = one3 bt (n + 4 + v) (v1 : Int) (strOfNums ((x1.take (n2 + v2)).drop n2)) (x1.drop (n2 + v2)) := by
    rw [HFI1.out]; unfold one2; rw [HV2.out]; simp only [Int.toNat_natCast]; rw [if_neg (by omega)]
  have cm := cut_mid (P := Try.prog) 22 5 Try.underlying22 hi0 hsz1 A3 x1.length c3 n2 (n2 + v2) (n2 : Int) ((n2 : Int) + (v2 : Int)) rfl (by omega) (by omega) (by omega)
  have hCm := Kd.C_mid (lo := n2) (hi := n2 + v2) HCX1.out (by omega) (by omega) hcc1
  have hly : ((x1.take (n2 + v2)).drop n2).length = n2 + v2 - n2 := by rw [List.length_drop, List.length_take]; omega
  obtain ⟨A4, hA4⟩ : ∃ A4, A4 = (if c3 = n2 then A3 else (A3 : Option Addr).map (·.add (n2 * 1))) := ⟨_, rfl⟩
  have hCm2 : Kd.C (Kd.int .u8) w A4 ((x1.take (n2 + v2)).drop n2).length ((x1.take (n2 + v2)).drop n2) := by rw [hA4]; exact hCm
  rw [← hA4, ← hly] at cm
  have cf := cut_from (P := Try.prog) 22 5 .i64 Try.underlying22 hi0 1 hsz1 A3 x1.length c3 ((n2 : Int) + (v2 : Int)) (by omega) (by omega)
  rw [show ((n2 : Int) + (v2 : Int)).toNat = n2 + v2 by omega] at cf
  have hCd := Kd.C_drop (m := n2 + v2) HCX1.out (by omega) hcc1
  have hB2 := Bytes.drop HBX1.out (n2 + v2)
  have hl2x : (x1.drop (n2 + v2)).length = x1.length - (n2 + v2) := List.length_drop
  obtain ⟨A5, hA5⟩ : ∃ A5, A5 = (if c3 = n2 + v2 then A3 else (A3 : Option Addr).map (·.add ((n2 + v2) * 1))) := ⟨_, rfl⟩
  have hCd2 : Kd.C (Kd.int .u8) w A5 (x1.drop (n2 + v2)).length (x1.drop (n2 + v2)) := by rw [hA5]; exact hCd
  rw [← hA5, ← hl2x] at cf
  have hcc2 : (x1.drop (n2 + v2)).length ≤ c3 - (n2 + v2) := by omega
  have hx2l : (x1.drop (n2 + v2)).length ≤ 1000000 := by omega
  obtain ⟨y, hy⟩ : ∃ y, (x1.take (n2 + v2)).drop n2 = y := ⟨_, rfl⟩
  obtain ⟨id, hid⟩ : ∃ i, strOfNums ((x1.take (n2 + v2)).drop n2) = i := ⟨_, rfl⟩
  rw [hid] at hFI2
  rw [hy] at cm hCm2 hid
  obtain ⟨x2, hx2⟩ : ∃ y, x1.drop (n2 + v2) = y := ⟨_, rfl⟩
  obtain ⟨c4, hc4⟩ : ∃ y, c3 - n2 = y := ⟨_, rfl⟩
  obtain ⟨c5, hc5⟩ : ∃ y, c3 - (n2 + v2) = y := ⟨_, rfl⟩
  rw [hc4] at cm
  rw [hx2] at cf hCd2 hB2 hFI2 hcc2 hx2l
  rw [hc5] at cf hcc2
  have HCY := Aside0.mk hCm2
  have HID := Aside0.mk hid
  have HCX2 := Aside0.mk hCd2
  have HBX2 := Aside0.mk hB2
  have HFI2 := Aside0.mk hFI2
  obtain ⟨v3, n3, hv3, hn3, hl3⟩ := ruv_parts hB2
  have hf3 := thermographref03_ReadUvarint.f_eq hB2 (by omega) 30
  rw [hv3] at hf3
  have HF3 := Aside0.mk hf3
  have HV3 := Aside0.mk hv3
  have hv2p : 1 ≤ v2 := by omega
  have hv2q : v2 ≤ 16 := by omega
  have hv2r : n2 + v2 ≤ x1.length := by omega
  have hv2e : (v2 == 0) = false := by rw [beq_eq_false_iff_ne]; omega
  clear hCm hCm2 hCd hCd2 hB2 hly hl2x hA4 hA5 hFI2 hy hid hx2 hc4 hc5 hv3 hf3 a1 a2 a3 a4
  go_upto_region 17 with (first | (go_at_call 26; go_loud ((with_reducible refine (thermographref03_ReadUvarint.calls 30 A3 c3 x1 (v2 : Int) (n2 : Int) _ (Kd.C_below HCX1.out H3.out.below) hcc1 HF2.out).mono ?_); rintro e w4 ⟨rfl, hb_⟩; have H4 := Aside0.mk (H3.out.step hb_); clear hb_; have kk0 := (H4.out).cell 0 (v := .int .i64 (v1 : Nat)) rfl; have kk1 := (H4.out).cell 1 (v := .string ⟨#[]⟩) rfl; have kk2 := (H4.out).cell 2 (v := .int .i64 0) rfl; have kk3 := (H4.out).cell 3 (v := .int .u64 0) rfl; have kk4 := (H4.out).cell 4 (v := .int .u64 0) rfl; have f0 := H4.out.free 0; have f1 := H4.out.free 1; have cs := Kd.C_string (P := Try.prog) (src := 22) (dst := 9) (c := c4) Try.underlying22 Try.underlying5 Try.underlying9 (Kd.C_below HCY.out H4.out.below); rw [HID.out] at cs)))
  have H5 : Aside0 (Sat w (w4.setCell ⟨w.heap.size + 1, 1, none⟩ (.string id)) (Blk (w.heap.size + 1) #[.int .i64 (v1 : Nat), .string id, .int .i64 0, .int .u64 0, .int .u64 0] 32 :: Blk w.heap.size #[.int .i64 0, .string ⟨#[]⟩, .int .i64 0, .int .u64 0, .int .u64 0] 32 :: [])) := ⟨H4.out.setBlk 1 (.string id)⟩
  clear kk0 kk1 kk2 kk3 kk4 f0 f1 cf cm cs H4 H3
  generalize w4.setCell ⟨w.heap.size + 1, 1, none⟩ (.string id) = w4b at H5 ⊢
  by_cases a1 : n3 = 0
  · have HFI := Aside0.mk (show oneF b = ((v1 : Int), id, 0, 0, 0, 0) by rw [HFI2.out]; unfold one3; rw [HV3.out]; simp only; rw [if_pos (.inl (by omega))])
    have g3 : ((n3 : Int) == 0) = true := by rw [beq_iff_eq]; omega
    clear a1
    go_wp2_with (first | (go_at_call 26; go_loud ((with_reducible refine (thermographref03_ReadUvarint.calls 30 A5 c5 x2 (v3 : Int) (n3 : Int) _ (Kd.C_below HCX2.out H5.out.below) hcc2 HF3.out).mono ?_); rintro e w6 ⟨rfl, hb_⟩; have H6 := Aside0.mk (H5.out.step hb_); clear hb_; have kk0 := (H6.out).cell 0 (v := .int .i64 (v1 : Nat)) rfl; have kk1 := (H6.out).cell 1 (v := .string id) rfl; have kk2 := (H6.out).cell 2 (v := .int .i64 0) rfl; have kk3 := (H6.out).cell 3 (v := .int .u64 0) rfl; have kk4 := (H6.out).cell 4 (v := .int .u64 0) rfl; have f0 := H6.out.free 0; have f1 := H6.out.free 1)) | ((with_reducible refine gate_store (p := 2) rfl ?_); go_loud (refine wpList_store_row rfl 32 (.tmp 2) (.tmp 122) rfl w.heap.size #[.int .i64 (v1 : Nat), .string id, .int .i64 0, .int .u64 0, .int .u64 0] rfl rfl 32 _ (H6.out.nth 1 rfl).blk (by kernel_rfl) rfl (by simp [Value.oneCell']) ?_; have HZ := Aside0.mk (Sat.setRow (H6.out.nth 1 rfl) #[.int .i64 (v1 : Nat), .string id, .int .i64 0, .int .u64 0, .int .u64 0]))))
    refine bodyPost_ret (results_ct rfl _ _ w.heap.size 32 #[.int .i64 (v1 : Nat), .string id, .int .i64 0, .int .u64 0, .int .u64 0] (0, 0) _ rfl HZ.out.blk Try.underlying32 rfl (by kernel_rfl)) rfl ?_
    exact ⟨by rw [HFI.out]; rfl, HZ.out.below⟩
  have g3 : ((n3 : Int) == 0) = false := by rw [beq_eq_false_iff_ne]; omega
  by_cases a2 : 1099511627776 < v3
  · have HFI := Aside0.mk (show oneF b = ((v1 : Int), id, 0, 0, 0, 0) by rw [HFI2.out]; unfold one3; rw [HV3.out]; simp only; rw [if_pos (.inr (.inl (by omega)))])
    have d_2889 : decide ((1099511627776 : Int) < (v3 : Int)) = true := decide_eq_true (by omega)
    have d_32157 : decide (1099511627776 < v3) = true := decide_eq_true (by omega)
    clear a2
    go_wp2_with (first | (go_at_call 26; go_loud ((with_reducible refine (thermographref03_ReadUvarint.calls 30 A5 c5 x2 (v3 : Int) (n3 : Int) _ (Kd.C_below HCX2.out H5.out.below) hcc2 HF3.out).mono ?_); rintro e w6 ⟨rfl, hb_⟩; have H6 := Aside0.mk (H5.out.step hb_); clear hb_; have kk0 := (H6.out).cell 0 (v := .int .i64 (v1 : Nat)) rfl; have kk1 := (H6.out).cell 1 (v := .string id) rfl; have kk2 := (H6.out).cell 2 (v := .int .i64 0) rfl; have kk3 := (H6.out).cell 3 (v := .int .u64 0) rfl; have kk4 := (H6.out).cell 4 (v := .int .u64 0) rfl; have f0 := H6.out.free 0; have f1 := H6.out.free 1)) | ((with_reducible refine gate_store (p := 2) rfl ?_); go_loud (refine wpList_store_row rfl 32 (.tmp 2) (.tmp 122) rfl w.heap.size #[.int .i64 (v1 : Nat), .string id, .int .i64 0, .int .u64 0, .int .u64 0] rfl rfl 32 _ (H6.out.nth 1 rfl).blk (by kernel_rfl) rfl (by simp [Value.oneCell']) ?_; have HZ := Aside0.mk (Sat.setRow (H6.out.nth 1 rfl) #[.int .i64 (v1 : Nat), .string id, .int .i64 0, .int .u64 0, .int .u64 0]))))
    refine bodyPost_ret (results_ct rfl _ _ w.heap.size 32 #[.int .i64 (v1 : Nat), .string id, .int .i64 0, .int .u64 0, .int .u64 0] (0, 0) _ rfl HZ.out.blk Try.underlying32 rfl (by kernel_rfl)) rfl ?_
    exact ⟨by rw [HFI.out]; rfl, HZ.out.below⟩
  have d_2889 : decide ((1099511627776 : Int) < (v3 : Int)) = false := decide_eq_false (by omega)
  have d_32157 : decide (1099511627776 < v3) = false := decide_eq_false (by omega)
  have hvi3 : IntKind.i64.wrap (v3 : Int) = (v3 : Int) := by rw [IntKind.wrap_i64]; omega
  by_cases a3 : x2.length ≠ n3 + 16
  · have HFI := Aside0.mk (show oneF b = ((v1 : Int), id, 0, 0, 0, 0) by rw [HFI2.out]; unfold one3; rw [HV3.out]; simp only; rw [if_pos (.inr (.inr (by omega)))])
    have g4 : ((x2.length : Int) != (n3 : Int) + 16) = true := by rw [bne_iff_ne]; omega
    have g5 : ((x2.length : Int) == (n3 : Int) + 16) = false := by rw [beq_eq_false_iff_ne]; omega
    have HA3 := Aside0.mk a3
    clear a3
    clear a1
    go_wp2_with (first | (go_at_call 26; go_loud ((with_reducible refine (thermographref03_ReadUvarint.calls 30 A5 c5 x2 (v3 : Int) (n3 : Int) _ (Kd.C_below HCX2.out H5.out.below) hcc2 HF3.out).mono ?_); rintro e w6 ⟨rfl, hb_⟩; have H6 := Aside0.mk (H5.out.step hb_); clear hb_; have kk0 := (H6.out).cell 0 (v := .int .i64 (v1 : Nat)) rfl; have kk1 := (H6.out).cell 1 (v := .string id) rfl; have kk2 := (H6.out).cell 2 (v := .int .i64 0) rfl; have kk3 := (H6.out).cell 3 (v := .int .u64 0) rfl; have kk4 := (H6.out).cell 4 (v := .int .u64 0) rfl; have f0 := H6.out.free 0; have f1 := H6.out.free 1)) | ((with_reducible refine gate_store (p := 2) rfl ?_); go_loud (refine wpList_store_row rfl 32 (.tmp 2) (.tmp 122) rfl w.heap.size #[.int .i64 (v1 : Nat), .string id, .int .i64 0, .int .u64 0, .int .u64 0] rfl rfl 32 _ (H6.out.nth 1 rfl).blk (by kernel_rfl) rfl (by simp [Value.oneCell']) ?_; have HZ := Aside0.mk (Sat.setRow (H6.out.nth 1 rfl) #[.int .i64 (v1 : Nat), .string id, .int .i64 0, .int .u64 0, .int .u64 0]))))
    refine bodyPost_ret (results_ct rfl _ _ w.heap.size 32 #[.int .i64 (v1 : Nat), .string id, .int .i64 0, .int .u64 0, .int .u64 0] (0, 0) _ rfl HZ.out.blk Try.underlying32 rfl (by kernel_rfl)) rfl ?_
    exact ⟨by rw [HFI.out]; rfl, HZ.out.below⟩
  have g4 : ((x2.length : Int) != (n3 : Int) + 16) = false := by rw [bne_eq_false_iff_eq]; omega
  have g5 : ((x2.length : Int) == (n3 : Int) + 16) = true := by rw [beq_iff_eq]; omega
  have hx2n : x2.length = n3 + 16 := by omega
  obtain ⟨vv, hvv⟩ : ∃ y, big ((x2.drop n3).take 8) = y := ⟨_, rfl⟩
  obtain ⟨ss, hss⟩ : ∃ y, big ((x2.drop (n3 + 8)).take 8) = y := ⟨_, rfl⟩
  obtain ⟨⟨r1, r2⟩, hr⟩ : ∃ r, encE (v1 : Int) id (v3 : Int) (vv : Nat) (ss : Nat) = r := ⟨_, rfl⟩
  have hFI3 : oneF b = if r2 = 0 ∧ r1 = bt then ((v1 : Int), id, (v3 : Int), (vv : Int), (ss : Int), ((n + 4 + v : Nat) : Int)) else ((v1 : Int), id, (v3 : Int), (vv : Int), (ss : Int), 0) := by
    rw [HFI2.out]; unfold one3; rw [HV3.out]; simp only [Int.toNat_natCast]; rw [if_neg (by omega), hvv, hss, hr]
  have hyl : 8 ≤ (x2.drop n3).length := by rw [List.length_drop]; omega
  have hzl : 8 ≤ (x2.drop (n3 + 8)).length := by rw [List.length_drop]; omega
  have w5 := ref_wide_f (Bytes.drop HBX2.out n3) hyl (k := 20) (by decide)
  have w6_ := ref_wide_f (Bytes.drop HBX2.out (n3 + 8)) hzl (k := 20) (by decide)
  have hvb : vv < 18446744073709551616 := by rw [← hvv]; exact big8 (Bytes.drop HBX2.out n3)
  have hsb : ss < 18446744073709551616 := by rw [← hss]; exact big8 (Bytes.drop HBX2.out (n3 + 8))
  rw [hvv] at w5
  rw [hss] at w6_
  have hen : thermographref09_Encode.f (5000 + 2) (v1 : Int) id (v3 : Int) (vv : Int) (ss : Int) = some (r1, r2) := by rw [ref_Encode_f (by omega) (by omega) (by omega) (by omega), hr]
  have hbr : Bytes r1 := by rw [show r1 = (encE (v1 : Int) id (v3 : Int) (vv : Int) (ss : Int)).1 by rw [hr]]; exact bytes_encE _ _ _ _ _
  have cf := cut_from (P := Try.prog) 22 5 .i64 Try.underlying22 hi0 1 hsz1 A5 x2.length c5 (n3 : Int) (by omega) (by omega)
  have cg := cut_from (P := Try.prog) 22 5 .i64 Try.underlying22 hi0 1 hsz1 A5 x2.length c5 ((n3 : Int) + 8) (by omega) (by omega)
  rw [Int.toNat_natCast] at cf
  rw [show ((n3 : Int) + 8).toNat = n3 + 8 by omega] at cg
  have hCa := Kd.C_drop (m := n3) HCX2.out (by omega) hcc2
  have hCb := Kd.C_drop (m := n3 + 8) HCX2.out (by omega) hcc2
  have hla : (x2.drop n3).length = x2.length - n3 := List.length_drop
  have hlb : (x2.drop (n3 + 8)).length = x2.length - (n3 + 8) := List.length_drop
  obtain ⟨A6, hA6⟩ : ∃ A6, A6 = (if c5 = n3 then A5 else (A5 : Option Addr).map (·.add (n3 * 1))) := ⟨_, rfl⟩
  obtain ⟨A7, hA7⟩ : ∃ A7, A7 = (if c5 = n3 + 8 then A5 else (A5 : Option Addr).map (·.add ((n3 + 8) * 1))) := ⟨_, rfl⟩
  have hCa2 : Kd.C (Kd.int .u8) w A6 (x2.drop n3).length (x2.drop n3) := by rw [hA6]; exact hCa
  have hCb2 : Kd.C (Kd.int .u8) w A7 (x2.drop (n3 + 8)).length (x2.drop (n3 + 8)) := by rw [hA7]; exact hCb
  rw [← hA6, ← hla] at cf
  rw [← hA7, ← hlb] at cg
  have hca : (x2.drop n3).length ≤ c5 - n3 := by omega
  have hcb : (x2.drop (n3 + 8)).length ≤ c5 - (n3 + 8) := by omega
  obtain ⟨ya, hya⟩ : ∃ y, x2.drop n3 = y := ⟨_, rfl⟩
  obtain ⟨yb, hyb⟩ : ∃ y, x2.drop (n3 + 8) = y := ⟨_, rfl⟩
  obtain ⟨c6, hc6⟩ : ∃ y, c5 - n3 = y := ⟨_, rfl⟩
  obtain ⟨c7, hc7⟩ : ∃ y, c5 - (n3 + 8) = y := ⟨_, rfl⟩
  rw [hya] at cf hCa2 hca w5
  rw [hyb] at cg hCb2 hcb w6_
  rw [hc6] at cf hca
  rw [hc7] at cg hcb
  have HCA := Aside0.mk hCa2
  have HCB := Aside0.mk hCb2
  have HW5 := Aside0.mk w5
  have HW6 := Aside0.mk w6_
  have HEN := Aside0.mk hen
  have HBR := Aside0.mk hbr
  have HFI3 := Aside0.mk hFI3
  have hv3p : v3 ≤ 1099511627776 := by omega
  have hn3p : n3 + 16 ≤ x2.length := by omega
  clear hFI3 hCa hCb hCa2 hCb2 hla hlb hA6 hA7 hya hyb hc6 hc7 hyl hzl w5 w6_ hen hbr hr hvv hss a1 a2 a3 hx2n
  go_upto_region 20 with (first | (go_at_call 26; go_loud ((with_reducible refine (thermographref03_ReadUvarint.calls 30 A5 c5 x2 (v3 : Int) (n3 : Int) _ (Kd.C_below HCX2.out H5.out.below) hcc2 HF3.out).mono ?_); rintro e w6 ⟨rfl, hb_⟩; have H6 := Aside0.mk (H5.out.step hb_); clear hb_; have kk0 := (H6.out).cell 0 (v := .int .i64 (v1 : Nat)) rfl; have kk1 := (H6.out).cell 1 (v := .string id) rfl; have kk2 := (H6.out).cell 2 (v := .int .i64 0) rfl; have kk3 := (H6.out).cell 3 (v := .int .u64 0) rfl; have kk4 := (H6.out).cell 4 (v := .int .u64 0) rfl; have f0 := H6.out.free 0; have f1 := H6.out.free 1)))
  have HD := Aside0.mk H6.out.drew
  clear kk0 kk1 kk2 kk3 kk4 f0 f1
  have hw8 : wrap64 ((n3 : Int) + 8) = (n3 : Int) + 8 := by unfold wrap64; omega
  refine start_ (n := 14) (S := fun w' => True) (ds := []) #[false, false, false, false, false, false, false, false, false, false, false, false, false, false] (by kernel_rfl) rfl rfl trivial (fun hHeld => ?_)
  refine with_tabW One.tab20 One.bits20 (fun HT_ HW_ => ?_)
  refine pure_ (i := 0) (N := some 123) (v := ?_) (a' := ?_) #[true, false, false, false, false, false, false, false, false, false, false, false, false, false] rfl rfl (any_of HT_.out (by kernel_rfl)) (fun _ _ _ h => h) (Or.inl ⟨by rfl, ?_⟩) ?_ ?_
  rotate_left
  · intro w'
    go_simp
    with_reducible rfl
  rotate_left
  · simp only [Act.put, List.setIfInBounds_toArray, List.set_cons_zero, List.set_cons_succ, i64_w, i32_w]
    rfl
  refine pure_ (i := 1) (N := some 124) (v := ?_) (a' := ?_) #[true, true, false, false, false, false, false, false, false, false, false, false, false, false] rfl rfl (any_of HT_.out (by kernel_rfl)) (fun _ _ _ h => h) (Or.inl ⟨by rfl, ?_⟩) ?_ ?_
  rotate_left
  · intro w'
    go_simp
    with_reducible rfl
  rotate_left
  · simp only [Act.put, List.setIfInBounds_toArray, List.set_cons_zero, List.set_cons_succ, i64_w, i32_w]
    rfl
  refine pure_ (i := 2) (N := some 125) (v := ?_) (a' := ?_) #[true, true, true, false, false, false, false, false, false, false, false, false, false, false] rfl rfl (any_of HT_.out (by kernel_rfl)) (fun _ _ _ h => h) (Or.inl ⟨by rfl, ?_⟩) ?_ ?_
  rotate_left
  · intro w'
    go_simp
    with_reducible rfl
  rotate_left
  · simp only [Act.put, List.setIfInBounds_toArray, List.set_cons_zero, List.set_cons_succ, i64_w, i32_w]
    rfl
  refine pure_ (i := 3) (N := some 126) (v := ?_) (a' := ?_) #[true, true, true, true, false, false, false, false, false, false, false, false, false, false] rfl rfl (any_of HT_.out (by kernel_rfl)) (fun _ _ _ h => h) (Or.inl ⟨by rfl, ?_⟩) ?_ ?_
  rotate_left
  · intro w'
    go_simp
    with_reducible rfl
  rotate_left
  · simp only [Act.put, List.setIfInBounds_toArray, List.set_cons_zero, List.set_cons_succ, i64_w, i32_w]
    rfl
  refine pure_ (i := 4) (N := some 127) (v := ?_) (a' := ?_) #[true, true, true, true, true, false, false, false, false, false, false, false, false, false] rfl rfl (any_of HT_.out (by kernel_rfl)) (fun _ _ _ h => h) (Or.inl ⟨by rfl, ?_⟩) ?_ ?_
  rotate_left
  · intro w'
    go_simp
    with_reducible rfl
  rotate_left
  · simp only [Act.put, List.setIfInBounds_toArray, List.set_cons_zero, List.set_cons_succ, i64_w, i32_w]
    rfl
  refine pure_ (i := 6) (N := some 129) (v := ?_) (a' := ?_) #[true, true, true, true, true, false, true, false, false, false, false, false, false, false] rfl rfl (any_of HT_.out (by kernel_rfl)) (fun _ _ _ h => h) (Or.inl ⟨by rfl, ?_⟩) ?_ ?_
  rotate_left
  · intro w'
    go_simp
    with_reducible rfl
  rotate_left
  · simp only [Act.put, List.setIfInBounds_toArray, List.set_cons_zero, List.set_cons_succ, i64_w, i32_w]
    rfl
  refine pure_ (i := 7) (N := some 130) (v := ?_) (a' := ?_) #[true, true, true, true, true, false, true, true, false, false, false, false, false, false] rfl rfl (any_of HT_.out (by kernel_rfl)) (fun _ _ _ h => h) (Or.inl ⟨by rfl, ?_⟩) ?_ ?_
  rotate_left
  · intro w'
    go_simp
    with_reducible rfl
  rotate_left
  · simp only [Act.put, List.setIfInBounds_toArray, List.set_cons_zero, List.set_cons_succ, i64_w, i32_w]
    rfl
  refine pure_ (i := 8) (N := some 131) (v := ?_) (a' := ?_) #[true, true, true, true, true, false, true, true, true, false, false, false, false, false] rfl rfl (any_of HT_.out (by kernel_rfl)) (fun _ _ _ h => h) (Or.inl ⟨by rfl, ?_⟩) ?_ ?_
  rotate_left
  · intro w'
    go_simp
    with_reducible rfl
  rotate_left
  · simp only [Act.put, List.setIfInBounds_toArray, List.set_cons_zero, List.set_cons_succ, i64_w, i32_w]
    rfl
  refine pure_ (i := 9) (N := some 132) (v := ?_) (a' := ?_) #[true, true, true, true, true, false, true, true, true, true, false, false, false, false] rfl rfl (any_of HT_.out (by kernel_rfl)) (fun _ _ _ h => h) (Or.inl ⟨by rfl, ?_⟩) ?_ ?_
  rotate_left
  · intro w'
    go_simp
    with_reducible rfl
  rotate_left
  · simp only [Act.put, List.setIfInBounds_toArray, List.set_cons_zero, List.set_cons_succ, i64_w, i32_w]
    rfl
  refine one_ (i := 5) (N := some 128) #[true, true, true, true, true, true, true, true, true, true, false, false, false, false] rfl rfl (one_of HT_.out (by kernel_rfl)) (by decide) (fun K hK => ?_)
  refine goes_ Try.func27 (by kernel_rfl) rfl #[.slice A6 ya.length c6] (by rfl) rfl rfl (by simp only [List.map_toArray, List.map_cons, List.map_nil]; rfl) ?_
  with_reducible refine (thermographref09_wide.calls 20 A6 c6 ya (vv : Int) _ (Kd.C_below HCA.out HD.out.below) hca HW5.out).mono ?_
  rintro e w7 ⟨rfl, ⟨⟨k7, hk7⟩⟩⟩
  refine ⟨_, rfl, ?_⟩
  have HS7 := Aside0.mk (HD.out.drewN k7)
  rw [← hk7] at HS7
  clear hk7
  refine hK.out _ _ trivial (fun hHeld => ?_)
  clear hK K
  refine norm_ (a' := ?_) ?_ ?_
  rotate_left
  · show Act.put _ (some 128) _ = _
    simp only [Act.put, List.setIfInBounds_toArray, List.set_cons_zero, List.set_cons_succ, i64_w, i32_w]
    rfl
  refine one_ (i := 10) (N := some 133) #[true, true, true, true, true, true, true, true, true, true, true, false, false, false] rfl rfl (one_of HT_.out (by kernel_rfl)) (by decide) (fun K hK => ?_)
  refine goes_ Try.func27 (by kernel_rfl) rfl #[.slice A7 yb.length c7] (by rfl) rfl rfl (by simp only [List.map_toArray, List.map_cons, List.map_nil]; rfl) ?_
  with_reducible refine (thermographref09_wide.calls 20 A7 c7 yb (ss : Int) _ (Kd.C_below HCB.out HS7.out.below) hcb HW6.out).mono ?_
  rintro e w8 ⟨rfl, ⟨⟨k8, hk8⟩⟩⟩
  refine ⟨_, rfl, ?_⟩
  have HS8 := Aside0.mk (HS7.out.drewN k8)
  rw [← hk8] at HS8
  clear hk8
  refine hK.out _ _ trivial (fun hHeld => ?_)
  clear hK K
  refine norm_ (a' := ?_) ?_ ?_
  rotate_left
  · show Act.put _ (some 133) _ = _
    simp only [Act.put, List.setIfInBounds_toArray, List.set_cons_zero, List.set_cons_succ, i64_w, i32_w]
    rfl
  refine pure_ (i := 11) (N := some 134) (v := ?_) (a' := ?_) #[true, true, true, true, true, true, true, true, true, true, true, true, false, false] rfl rfl (any_of HT_.out (by kernel_rfl)) (fun _ _ _ h => h) (Or.inl ⟨by rfl, ?_⟩) ?_ ?_
  rotate_left
  · intro w'
    go_simp
    with_reducible rfl
  rotate_left
  · simp only [Act.put, List.setIfInBounds_toArray, List.set_cons_zero, List.set_cons_succ, i64_w, i32_w]
    rfl
  refine pure_ (i := 12) (N := some 135) (v := ?_) (a' := ?_) #[true, true, true, true, true, true, true, true, true, true, true, true, true, false] rfl rfl (any_of HT_.out (by kernel_rfl)) (fun _ _ _ h => h) (Or.inl ⟨by rfl, ?_⟩) ?_ ?_
  rotate_left
  · intro w'
    go_simp
    with_reducible rfl
  rotate_left
  · simp only [Act.put, List.setIfInBounds_toArray, List.set_cons_zero, List.set_cons_succ, i64_w, i32_w]
    rfl
  refine one_ (i := 13) (N := none) #[true, true, true, true, true, true, true, true, true, true, true, true, true, true] rfl rfl (one_of HT_.out (by kernel_rfl)) (by decide) (fun K hK => ?_)
  have s2 := HS8.out.cell 2 (v := .int .i64 0) rfl
  have s3 := HS8.out.cell 3 (v := .int .u64 0) rfl
  have s4 := HS8.out.cell 4 (v := .int .u64 0) rfl
  have t2 := HS8.out.free 2
  have t3 := HS8.out.free 3
  have t4 := HS8.out.free 4
  refine skip_ (w1 := ?_) (by rfl) rfl ?_ ?_
  rotate_left
  · go_simp
    rfl
  refine hK.out _ _ trivial (fun hHeld => ?_)
  clear hK K
  refine done_ (done_of HT_.out (by kernel_rfl)) ?_
  have HS9 : Aside0 (Sat w (((w8.setCell ⟨w.heap.size + 1, 2, none⟩ (.int .i64 (v3 : Nat))).setCell ⟨w.heap.size + 1, 3, none⟩ (.int .u64 (vv : Nat))).setCell ⟨w.heap.size + 1, 4, none⟩ (.int .u64 (ss : Nat))) (Blk (w.heap.size + 1) #[.int .i64 (v1 : Nat), .string id, .int .i64 (v3 : Nat), .int .u64 (vv : Nat), .int .u64 (ss : Nat)] 32 :: Blk w.heap.size #[.int .i64 0, .string ⟨#[]⟩, .int .i64 0, .int .u64 0, .int .u64 0] 32 :: [])) := ⟨((HS8.out.setBlk 2 (.int .i64 (v3 : Nat))).setBlk 3 (.int .u64 (vv : Nat))).setBlk 4 (.int .u64 (ss : Nat))⟩
  clear hw8 HS8 HS7 HD s2 s3 s4 t2 t3 t4 cf cg
  generalize ((w8.setCell ⟨w.heap.size + 1, 2, none⟩ (.int .i64 (v3 : Nat))).setCell ⟨w.heap.size + 1, 3, none⟩ (.int .u64 (vv : Nat))).setCell ⟨w.heap.size + 1, 4, none⟩ (.int .u64 (ss : Nat)) = w9 at HS9 ⊢
  have kk0 := (HS9.out).cell 0 (v := .int .i64 (v1 : Nat)) rfl
  have kk1 := (HS9.out).cell 1 (v := .string id) rfl
  have kk2 := (HS9.out).cell 2 (v := .int .i64 (v3 : Nat)) rfl
  have kk3 := (HS9.out).cell 3 (v := .int .u64 (vv : Nat)) rfl
  have kk4 := (HS9.out).cell 4 (v := .int .u64 (ss : Nat)) rfl
  go_upto_region 22 with (first | (go_at_call 10; go_loud ((with_reducible refine (thermographref09_Encode.calls (5000 + 2) (v1 : Int) id (v3 : Int) (vv : Int) (ss : Int) r1 r2 w9 HEN.out).mono ?_); rintro e w12 ⟨vr, rfl, hrr, hbb⟩; obtain ⟨A8, c8, rfl⟩ := Kd.R_slice hrr; have H12 : Aside0 (Sat w w12 (Row (Kd.int .u8) 5 (.slice A8 r1.length c8) r1 :: Blk (w.heap.size + 1) #[.int .i64 (v1 : Nat), .string id, .int .i64 (v3 : Nat), .int .u64 (vv : Nat), .int .u64 (ss : Nat)] 32 :: Blk w.heap.size #[.int .i64 0, .string ⟨#[]⟩, .int .i64 0, .int .u64 0, .int .u64 0] 32 :: [])) := ⟨HS9.out.made hbb hrr⟩; clear hrr hbb)))
  have HE := Aside0.mk H12.out.drew
  have hct := HCT.out
  rw [HLT.out] at hct
  have HCT2 := Aside0.mk hct
  have SF : Aside0 (∀ w', Sat w w' (Row (Kd.int .u8) 5 (.slice A8 r1.length c8) r1 :: Blk (w.heap.size + 1) #[.int .i64 (v1 : Nat), .string id, .int .i64 (v3 : Nat), .int .u64 (vv : Nat), .int .u64 (ss : Nat)] 32 :: Blk w.heap.size #[.int .i64 0, .string ⟨#[]⟩, .int .i64 0, .int .u64 0, .int .u64 0] 32 :: []) → (fun w' => (convert 22 9 (.slice A8 r1.length c8)).run Try.prog w' = .ok (.string (strOfNums r1)) w' ∧ (convert 22 9 (.slice A (n + 4 + v) c)).run Try.prog w' = .ok (.string (strOfNums bt)) w') w') := ⟨fun w' h => ⟨Kd.C_string (P := Try.prog) (src := 22) (dst := 9) Try.underlying22 Try.underlying5 Try.underlying9 h.rowC, Kd.C_string (P := Try.prog) (src := 22) (dst := 9) Try.underlying22 Try.underlying5 Try.underlying9 (Kd.C_below HCT2.out h.below)⟩⟩
  clear hct kk0 kk1 kk2 kk3 kk4
  by_cases hz : r2 = 0
  · have d6 : (r2 != 0) = false := by rw [bne_eq_false_iff_eq]; exact hz
    have d7 : (r2 == 0) = true := by rw [beq_iff_eq]; exact hz
    by_cases he : r1 = bt
    · have HFI := Aside0.mk (show oneF b = ((v1 : Int), id, (v3 : Int), (vv : Int), (ss : Int), ((n + 4 + v : Nat) : Int)) by rw [HFI3.out, if_pos ⟨hz, he⟩])
      have q1 : ((strOfNums r1).toList == (strOfNums bt).toList) = true := by rw [he]; exact beq_self_eq_true _
      have q2 : ((strOfNums r1).toList != (strOfNums bt).toList) = false := by rw [he]; simp
      clear hz he
      refine start_ (n := 11) (S := fun w' => Sat w w' (Row (Kd.int .u8) 5 (.slice A8 r1.length c8) r1 :: Blk (w.heap.size + 1) #[.int .i64 (v1 : Nat), .string id, .int .i64 (v3 : Nat), .int .u64 (vv : Nat), .int .u64 (ss : Nat)] 32 :: Blk w.heap.size #[.int .i64 0, .string ⟨#[]⟩, .int .i64 0, .int .u64 0, .int .u64 0] 32 :: []) ∧ (convert 22 9 (.slice A8 r1.length c8)).run Try.prog w' = .ok (.string (strOfNums r1)) w' ∧ (convert 22 9 (.slice A (n + 4 + v) c)).run Try.prog w' = .ok (.string (strOfNums bt)) w') (ds := []) #[false, false, false, false, false, false, false, false, false, false, false] (by kernel_rfl) rfl rfl ⟨HE.out, (SF.out _ HE.out).1, (SF.out _ HE.out).2⟩ (fun hHeld => ?_)
      refine with_tabW One.tab22 One.bits22 (fun HT_ HW_ => ?_)
      refine pure_ (i := 0) (N := some 141) (v := ?_) (a' := ?_) #[true, false, false, false, false, false, false, false, false, false, false] rfl rfl (any_of HT_.out (by kernel_rfl)) (fun _ _ _ h => h) (Or.inl ⟨by rfl, ?_⟩) ?_ ?_
      rotate_left
      · intro w'
        go_simp
        with_reducible rfl
      rotate_left
      · simp only [Act.put, List.setIfInBounds_toArray, List.set_cons_zero, List.set_cons_succ, i64_w, i32_w]
        rfl
      refine pure_ (i := 1) (N := some 142) (v := ?_) (a' := ?_) #[true, true, false, false, false, false, false, false, false, false, false] rfl rfl (any_of HT_.out (by kernel_rfl)) (fun _ _ _ h => h) (Or.inl ⟨by rfl, ?_⟩) ?_ ?_
      rotate_left
      · intro w'
        go_simp
        with_reducible rfl
      rotate_left
      · simp only [Act.put, List.setIfInBounds_toArray, List.set_cons_zero, List.set_cons_succ, i64_w, i32_w]
        rfl
      refine pure_ (i := 2) (N := some 143) (v := ?_) (a' := ?_) #[true, true, true, false, false, false, false, false, false, false, false] rfl rfl (any_of HT_.out (by kernel_rfl)) (fun _ _ _ h => h) (Or.inl ⟨by rfl, ?_⟩) ?_ ?_
      rotate_left
      · intro w'
        go_simp
        with_reducible rfl
      rotate_left
      · simp only [Act.put, List.setIfInBounds_toArray, List.set_cons_zero, List.set_cons_succ, i64_w, i32_w]
        rfl
      refine pure_ (i := 3) (N := some 144) (v := ?_) (a' := ?_) #[true, true, true, true, false, false, false, false, false, false, false] rfl rfl (any_of HT_.out (by kernel_rfl)) (fun _ _ _ h => h) (Or.inl ⟨by rfl, ?_⟩) ?_ ?_
      rotate_left
      · intro w'
        go_simp
        with_reducible rfl
      rotate_left
      · simp only [Act.put, List.setIfInBounds_toArray, List.set_cons_zero, List.set_cons_succ, i64_w, i32_w]
        rfl
      refine pure_ (i := 5) (N := some 146) (v := ?_) (a' := ?_) #[true, true, true, true, false, true, false, false, false, false, false] rfl rfl (any_of HT_.out (by kernel_rfl)) (fun _ _ _ h => h) (Or.inl ⟨by rfl, ?_⟩) ?_ ?_
      rotate_left
      · intro w'
        go_simp
        with_reducible rfl
      rotate_left
      · simp only [Act.put, List.setIfInBounds_toArray, List.set_cons_zero, List.set_cons_succ, i64_w, i32_w]
        rfl
      refine pure_ (i := 6) (N := some 147) (v := ?_) (a' := ?_) #[true, true, true, true, false, true, true, false, false, false, false] rfl rfl (any_of HT_.out (by kernel_rfl)) (fun _ _ _ h => h) (Or.inl ⟨by rfl, ?_⟩) ?_ ?_
      rotate_left
      · intro w'
        go_simp
        with_reducible rfl
      rotate_left
      · simp only [Act.put, List.setIfInBounds_toArray, List.set_cons_zero, List.set_cons_succ, i64_w, i32_w]
        rfl
      refine pure_ (i := 7) (N := some 148) (v := ?_) (a' := ?_) #[true, true, true, true, false, true, true, true, false, false, false] rfl rfl (any_of HT_.out (by kernel_rfl)) (fun _ _ _ h => h) (Or.inl ⟨by rfl, ?_⟩) ?_ ?_
      rotate_left
      · intro w'
        go_simp
        with_reducible rfl
      rotate_left
      · simp only [Act.put, List.setIfInBounds_toArray, List.set_cons_zero, List.set_cons_succ, i64_w, i32_w]
        rfl
      refine take_ (i := 4) (N := some 145) (v := ?_) (a' := ?_) #[true, true, true, true, true, true, true, true, false, false, false] rfl rfl (take_ofW HT_.out HW_.out (by kernel_rfl)) (fun _ _ _ h => h) (Or.inl ⟨by rfl, ?_⟩) hHeld ?_ ?_
      rotate_left
      · rintro w' ⟨s0, s1, s2⟩
        go_simp
        with_reducible rfl
      rotate_left
      · simp only [Act.put, List.setIfInBounds_toArray, List.set_cons_zero, List.set_cons_succ, i64_w, i32_w]
        rfl
      refine take_ (i := 8) (N := some 149) (v := ?_) (a' := ?_) #[true, true, true, true, true, true, true, true, true, false, false] rfl rfl (take_ofW HT_.out HW_.out (by kernel_rfl)) (fun _ _ _ h => h) (Or.inl ⟨by rfl, ?_⟩) hHeld ?_ ?_
      rotate_left
      · rintro w' ⟨s0, s1, s2⟩
        go_simp
        with_reducible rfl
      rotate_left
      · simp only [Act.put, List.setIfInBounds_toArray, List.set_cons_zero, List.set_cons_succ, i64_w, i32_w]
        rfl
      refine pure_ (i := 9) (N := some 150) (v := ?_) (a' := ?_) #[true, true, true, true, true, true, true, true, true, true, false] rfl rfl (any_of HT_.out (by kernel_rfl)) (fun _ _ _ h => h) (Or.inl ⟨by rfl, ?_⟩) ?_ ?_
      rotate_left
      · intro w'
        go_simp
        with_reducible rfl
      rotate_left
      · simp only [Act.put, List.setIfInBounds_toArray, List.set_cons_zero, List.set_cons_succ, i64_w, i32_w]
        rfl
      refine pure_ (i := 10) (N := some 151) (v := ?_) (a' := ?_) #[true, true, true, true, true, true, true, true, true, true, true] rfl rfl (any_of HT_.out (by kernel_rfl)) (fun _ _ _ h => h) (Or.inl ⟨by rfl, ?_⟩) ?_ ?_
      rotate_left
      · intro w'
        go_simp
        with_reducible rfl
      rotate_left
      · simp only [Act.put, List.setIfInBounds_toArray, List.set_cons_zero, List.set_cons_succ, i64_w, i32_w]
        rfl
      refine done_ (done_of HT_.out (by kernel_rfl)) ?_
      have kk0 := (HE.out.nth 1 rfl).cell 0 (v := .int .i64 (v1 : Nat)) rfl
      have kk1 := (HE.out.nth 1 rfl).cell 1 (v := .string id) rfl
      have kk2 := (HE.out.nth 1 rfl).cell 2 (v := .int .i64 (v3 : Nat)) rfl
      have kk3 := (HE.out.nth 1 rfl).cell 3 (v := .int .u64 (vv : Nat)) rfl
      have kk4 := (HE.out.nth 1 rfl).cell 4 (v := .int .u64 (ss : Nat)) rfl
      go_wp2_with (first | ((with_reducible refine gate_store (p := 2) rfl ?_); go_loud (refine wpList_store_row rfl 32 (.tmp 2) (.tmp 153) rfl w.heap.size #[.int .i64 (v1 : Nat), .string id, .int .i64 (v3 : Nat), .int .u64 (vv : Nat), .int .u64 (ss : Nat)] rfl rfl 32 _ (HE.out.nth 2 rfl).blk (by kernel_rfl) rfl (by simp [Value.oneCell']) ?_; have HZ := Aside0.mk (Sat.setRow (HE.out.nth 2 rfl) #[.int .i64 (v1 : Nat), .string id, .int .i64 (v3 : Nat), .int .u64 (vv : Nat), .int .u64 (ss : Nat)]))))
      refine bodyPost_ret (results_ct rfl _ _ w.heap.size 32 #[.int .i64 (v1 : Nat), .string id, .int .i64 (v3 : Nat), .int .u64 (vv : Nat), .int .u64 (ss : Nat)] (0, 0) _ rfl HZ.out.blk Try.underlying32 rfl (by kernel_rfl)) rfl ?_
      exact ⟨by rw [HFI.out]; rfl, HZ.out.below⟩
    · have hne : (strOfNums r1).toList ≠ (strOfNums bt).toList := fun e => he (Go.Proofs.Ytnkcdopjhjmdnaa.UvN.str_inj' HBR.out HBT.out e)
      have HFI := Aside0.mk (show oneF b = ((v1 : Int), id, (v3 : Int), (vv : Int), (ss : Int), 0) by rw [HFI3.out, if_neg (fun h => he h.2)])
      have q1 : ((strOfNums r1).toList == (strOfNums bt).toList) = false := by rw [beq_eq_false_iff_ne]; exact hne
      have q2 : ((strOfNums r1).toList != (strOfNums bt).toList) = true := by rw [bne_iff_ne]; exact hne
      clear hz he hne
      refine start_ (n := 11) (S := fun w' => Sat w w' (Row (Kd.int .u8) 5 (.slice A8 r1.length c8) r1 :: Blk (w.heap.size + 1) #[.int .i64 (v1 : Nat), .string id, .int .i64 (v3 : Nat), .int .u64 (vv : Nat), .int .u64 (ss : Nat)] 32 :: Blk w.heap.size #[.int .i64 0, .string ⟨#[]⟩, .int .i64 0, .int .u64 0, .int .u64 0] 32 :: []) ∧ (convert 22 9 (.slice A8 r1.length c8)).run Try.prog w' = .ok (.string (strOfNums r1)) w' ∧ (convert 22 9 (.slice A (n + 4 + v) c)).run Try.prog w' = .ok (.string (strOfNums bt)) w') (ds := []) #[false, false, false, false, false, false, false, false, false, false, false] (by kernel_rfl) rfl rfl ⟨HE.out, (SF.out _ HE.out).1, (SF.out _ HE.out).2⟩ (fun hHeld => ?_)
      refine with_tabW One.tab22 One.bits22 (fun HT_ HW_ => ?_)
      refine pure_ (i := 0) (N := some 141) (v := ?_) (a' := ?_) #[true, false, false, false, false, false, false, false, false, false, false] rfl rfl (any_of HT_.out (by kernel_rfl)) (fun _ _ _ h => h) (Or.inl ⟨by rfl, ?_⟩) ?_ ?_
      rotate_left
      · intro w'
        go_simp
        with_reducible rfl
      rotate_left
      · simp only [Act.put, List.setIfInBounds_toArray, List.set_cons_zero, List.set_cons_succ, i64_w, i32_w]
        rfl
      refine pure_ (i := 1) (N := some 142) (v := ?_) (a' := ?_) #[true, true, false, false, false, false, false, false, false, false, false] rfl rfl (any_of HT_.out (by kernel_rfl)) (fun _ _ _ h => h) (Or.inl ⟨by rfl, ?_⟩) ?_ ?_
      rotate_left
      · intro w'
        go_simp
        with_reducible rfl
      rotate_left
      · simp only [Act.put, List.setIfInBounds_toArray, List.set_cons_zero, List.set_cons_succ, i64_w, i32_w]
        rfl
      refine pure_ (i := 2) (N := some 143) (v := ?_) (a' := ?_) #[true, true, true, false, false, false, false, false, false, false, false] rfl rfl (any_of HT_.out (by kernel_rfl)) (fun _ _ _ h => h) (Or.inl ⟨by rfl, ?_⟩) ?_ ?_
      rotate_left
      · intro w'
        go_simp
        with_reducible rfl
      rotate_left
      · simp only [Act.put, List.setIfInBounds_toArray, List.set_cons_zero, List.set_cons_succ, i64_w, i32_w]
        rfl
      refine pure_ (i := 3) (N := some 144) (v := ?_) (a' := ?_) #[true, true, true, true, false, false, false, false, false, false, false] rfl rfl (any_of HT_.out (by kernel_rfl)) (fun _ _ _ h => h) (Or.inl ⟨by rfl, ?_⟩) ?_ ?_
      rotate_left
      · intro w'
        go_simp
        with_reducible rfl
      rotate_left
      · simp only [Act.put, List.setIfInBounds_toArray, List.set_cons_zero, List.set_cons_succ, i64_w, i32_w]
        rfl
      refine pure_ (i := 5) (N := some 146) (v := ?_) (a' := ?_) #[true, true, true, true, false, true, false, false, false, false, false] rfl rfl (any_of HT_.out (by kernel_rfl)) (fun _ _ _ h => h) (Or.inl ⟨by rfl, ?_⟩) ?_ ?_
      rotate_left
      · intro w'
        go_simp
        with_reducible rfl
      rotate_left
      · simp only [Act.put, List.setIfInBounds_toArray, List.set_cons_zero, List.set_cons_succ, i64_w, i32_w]
        rfl
      refine pure_ (i := 6) (N := some 147) (v := ?_) (a' := ?_) #[true, true, true, true, false, true, true, false, false, false, false] rfl rfl (any_of HT_.out (by kernel_rfl)) (fun _ _ _ h => h) (Or.inl ⟨by rfl, ?_⟩) ?_ ?_
      rotate_left
      · intro w'
        go_simp
        with_reducible rfl
      rotate_left
      · simp only [Act.put, List.setIfInBounds_toArray, List.set_cons_zero, List.set_cons_succ, i64_w, i32_w]
        rfl
      refine pure_ (i := 7) (N := some 148) (v := ?_) (a' := ?_) #[true, true, true, true, false, true, true, true, false, false, false] rfl rfl (any_of HT_.out (by kernel_rfl)) (fun _ _ _ h => h) (Or.inl ⟨by rfl, ?_⟩) ?_ ?_
      rotate_left
      · intro w'
        go_simp
        with_reducible rfl
      rotate_left
      · simp only [Act.put, List.setIfInBounds_toArray, List.set_cons_zero, List.set_cons_succ, i64_w, i32_w]
        rfl
      refine take_ (i := 4) (N := some 145) (v := ?_) (a' := ?_) #[true, true, true, true, true, true, true, true, false, false, false] rfl rfl (take_ofW HT_.out HW_.out (by kernel_rfl)) (fun _ _ _ h => h) (Or.inl ⟨by rfl, ?_⟩) hHeld ?_ ?_
      rotate_left
      · rintro w' ⟨s0, s1, s2⟩
        go_simp
        with_reducible rfl
      rotate_left
      · simp only [Act.put, List.setIfInBounds_toArray, List.set_cons_zero, List.set_cons_succ, i64_w, i32_w]
        rfl
      refine take_ (i := 8) (N := some 149) (v := ?_) (a' := ?_) #[true, true, true, true, true, true, true, true, true, false, false] rfl rfl (take_ofW HT_.out HW_.out (by kernel_rfl)) (fun _ _ _ h => h) (Or.inl ⟨by rfl, ?_⟩) hHeld ?_ ?_
      rotate_left
      · rintro w' ⟨s0, s1, s2⟩
        go_simp
        with_reducible rfl
      rotate_left
      · simp only [Act.put, List.setIfInBounds_toArray, List.set_cons_zero, List.set_cons_succ, i64_w, i32_w]
        rfl
      refine pure_ (i := 9) (N := some 150) (v := ?_) (a' := ?_) #[true, true, true, true, true, true, true, true, true, true, false] rfl rfl (any_of HT_.out (by kernel_rfl)) (fun _ _ _ h => h) (Or.inl ⟨by rfl, ?_⟩) ?_ ?_
      rotate_left
      · intro w'
        go_simp
        with_reducible rfl
      rotate_left
      · simp only [Act.put, List.setIfInBounds_toArray, List.set_cons_zero, List.set_cons_succ, i64_w, i32_w]
        rfl
      refine pure_ (i := 10) (N := some 151) (v := ?_) (a' := ?_) #[true, true, true, true, true, true, true, true, true, true, true] rfl rfl (any_of HT_.out (by kernel_rfl)) (fun _ _ _ h => h) (Or.inl ⟨by rfl, ?_⟩) ?_ ?_
      rotate_left
      · intro w'
        go_simp
        with_reducible rfl
      rotate_left
      · simp only [Act.put, List.setIfInBounds_toArray, List.set_cons_zero, List.set_cons_succ, i64_w, i32_w]
        rfl
      refine done_ (done_of HT_.out (by kernel_rfl)) ?_
      have kk0 := (HE.out.nth 1 rfl).cell 0 (v := .int .i64 (v1 : Nat)) rfl
      have kk1 := (HE.out.nth 1 rfl).cell 1 (v := .string id) rfl
      have kk2 := (HE.out.nth 1 rfl).cell 2 (v := .int .i64 (v3 : Nat)) rfl
      have kk3 := (HE.out.nth 1 rfl).cell 3 (v := .int .u64 (vv : Nat)) rfl
      have kk4 := (HE.out.nth 1 rfl).cell 4 (v := .int .u64 (ss : Nat)) rfl
      go_wp2_with (first | ((with_reducible refine gate_store (p := 2) rfl ?_); go_loud (refine wpList_store_row rfl 32 (.tmp 2) (.tmp 152) rfl w.heap.size #[.int .i64 (v1 : Nat), .string id, .int .i64 (v3 : Nat), .int .u64 (vv : Nat), .int .u64 (ss : Nat)] rfl rfl 32 _ (HE.out.nth 2 rfl).blk (by kernel_rfl) rfl (by simp [Value.oneCell']) ?_; have HZ := Aside0.mk (Sat.setRow (HE.out.nth 2 rfl) #[.int .i64 (v1 : Nat), .string id, .int .i64 (v3 : Nat), .int .u64 (vv : Nat), .int .u64 (ss : Nat)]))))
      refine bodyPost_ret (results_ct rfl _ _ w.heap.size 32 #[.int .i64 (v1 : Nat), .string id, .int .i64 (v3 : Nat), .int .u64 (vv : Nat), .int .u64 (ss : Nat)] (0, 0) _ rfl HZ.out.blk Try.underlying32 rfl (by kernel_rfl)) rfl ?_
      exact ⟨by rw [HFI.out]; rfl, HZ.out.below⟩
  · have d6 : (r2 != 0) = true := by rw [bne_iff_ne]; exact hz
    have d7 : (r2 == 0) = false := by rw [beq_eq_false_iff_ne]; exact hz
    have HFI := Aside0.mk (show oneF b = ((v1 : Int), id, (v3 : Int), (vv : Int), (ss : Int), 0) by rw [HFI3.out, if_neg (fun h => hz h.1)])
    clear hz
    refine start_ (n := 11) (S := fun w' => True) (ds := []) #[false, false, false, false, false, false, false, false, false, false, false] (by kernel_rfl) rfl rfl trivial (fun hHeld => ?_)
    refine with_tabW One.tab22 One.bits22 (fun HT_ HW_ => ?_)
    refine pure_ (i := 0) (N := some 141) (v := ?_) (a' := ?_) #[true, false, false, false, false, false, false, false, false, false, false] rfl rfl (any_of HT_.out (by kernel_rfl)) (fun _ _ _ h => h) (Or.inl ⟨by rfl, ?_⟩) ?_ ?_
    rotate_left
    · intro w'
      go_simp
      with_reducible rfl
    rotate_left
    · simp only [Act.put, List.setIfInBounds_toArray, List.set_cons_zero, List.set_cons_succ, i64_w, i32_w]
      rfl
    refine pure_ (i := 1) (N := some 142) (v := ?_) (a' := ?_) #[true, true, false, false, false, false, false, false, false, false, false] rfl rfl (any_of HT_.out (by kernel_rfl)) (fun _ _ _ h => h) (Or.inl ⟨by rfl, ?_⟩) ?_ ?_
    rotate_left
    · intro w'
      go_simp
      with_reducible rfl
    rotate_left
    · simp only [Act.put, List.setIfInBounds_toArray, List.set_cons_zero, List.set_cons_succ, i64_w, i32_w]
      rfl
    refine pure_ (i := 2) (N := some 143) (v := ?_) (a' := ?_) #[true, true, true, false, false, false, false, false, false, false, false] rfl rfl (any_of HT_.out (by kernel_rfl)) (fun _ _ _ h => h) (Or.inl ⟨by rfl, ?_⟩) ?_ ?_
    rotate_left
    · intro w'
      go_simp
      with_reducible rfl
    rotate_left
    · simp only [Act.put, List.setIfInBounds_toArray, List.set_cons_zero, List.set_cons_succ, i64_w, i32_w]
      rfl
    refine pure_ (i := 3) (N := some 144) (v := undef) (a' := ?_) #[true, true, true, true, false, false, false, false, false, false, false] rfl rfl (any_of HT_.out (by kernel_rfl)) (fun _ _ _ h => h) (Or.inr ⟨by rfl, rfl⟩) ?_ ?_
    rotate_left
    · simp only [Act.put, List.setIfInBounds_toArray, List.set_cons_zero, List.set_cons_succ, i64_w, i32_w]
      rfl
    refine pure_ (i := 4) (N := some 145) (v := undef) (a' := ?_) #[true, true, true, true, true, false, false, false, false, false, false] rfl rfl (any_of HT_.out (by kernel_rfl)) (fun _ _ _ h => h) (Or.inr ⟨by rfl, rfl⟩) ?_ ?_
    rotate_left
    · simp only [Act.put, List.setIfInBounds_toArray, List.set_cons_zero, List.set_cons_succ, i64_w, i32_w]
      rfl
    refine pure_ (i := 5) (N := some 146) (v := undef) (a' := ?_) #[true, true, true, true, true, true, false, false, false, false, false] rfl rfl (any_of HT_.out (by kernel_rfl)) (fun _ _ _ h => h) (Or.inr ⟨by rfl, rfl⟩) ?_ ?_
    rotate_left
    · simp only [Act.put, List.setIfInBounds_toArray, List.set_cons_zero, List.set_cons_succ, i64_w, i32_w]
      rfl
    refine pure_ (i := 6) (N := some 147) (v := undef) (a' := ?_) #[true, true, true, true, true, true, true, false, false, false, false] rfl rfl (any_of HT_.out (by kernel_rfl)) (fun _ _ _ h => h) (Or.inr ⟨by rfl, rfl⟩) ?_ ?_
    rotate_left
    · simp only [Act.put, List.setIfInBounds_toArray, List.set_cons_zero, List.set_cons_succ, i64_w, i32_w]
      rfl
    refine pure_ (i := 7) (N := some 148) (v := undef) (a' := ?_) #[true, true, true, true, true, true, true, true, false, false, false] rfl rfl (any_of HT_.out (by kernel_rfl)) (fun _ _ _ h => h) (Or.inr ⟨by rfl, rfl⟩) ?_ ?_
    rotate_left
    · simp only [Act.put, List.setIfInBounds_toArray, List.set_cons_zero, List.set_cons_succ, i64_w, i32_w]
      rfl
    refine pure_ (i := 8) (N := some 149) (v := undef) (a' := ?_) #[true, true, true, true, true, true, true, true, true, false, false] rfl rfl (any_of HT_.out (by kernel_rfl)) (fun _ _ _ h => h) (Or.inr ⟨by rfl, rfl⟩) ?_ ?_
    rotate_left
    · simp only [Act.put, List.setIfInBounds_toArray, List.set_cons_zero, List.set_cons_succ, i64_w, i32_w]
      rfl
    refine pure_ (i := 9) (N := some 150) (v := undef) (a' := ?_) #[true, true, true, true, true, true, true, true, true, true, false] rfl rfl (any_of HT_.out (by kernel_rfl)) (fun _ _ _ h => h) (Or.inr ⟨by rfl, rfl⟩) ?_ ?_
    rotate_left
    · simp only [Act.put, List.setIfInBounds_toArray, List.set_cons_zero, List.set_cons_succ, i64_w, i32_w]
      rfl
    refine pure_ (i := 10) (N := some 151) (v := ?_) (a' := ?_) #[true, true, true, true, true, true, true, true, true, true, true] rfl rfl (any_of HT_.out (by kernel_rfl)) (fun _ _ _ h => h) (Or.inl ⟨by rfl, ?_⟩) ?_ ?_
    rotate_left
    · intro w'
      go_simp
      with_reducible rfl
    rotate_left
    · simp only [Act.put, List.setIfInBounds_toArray, List.set_cons_zero, List.set_cons_succ, i64_w, i32_w]
      rfl
    refine done_ (done_of HT_.out (by kernel_rfl)) ?_
    have kk0 := (HE.out.nth 1 rfl).cell 0 (v := .int .i64 (v1 : Nat)) rfl
    have kk1 := (HE.out.nth 1 rfl).cell 1 (v := .string id) rfl
    have kk2 := (HE.out.nth 1 rfl).cell 2 (v := .int .i64 (v3 : Nat)) rfl
    have kk3 := (HE.out.nth 1 rfl).cell 3 (v := .int .u64 (vv : Nat)) rfl
    have kk4 := (HE.out.nth 1 rfl).cell 4 (v := .int .u64 (ss : Nat)) rfl
    go_wp2_with (first | ((with_reducible refine gate_store (p := 2) rfl ?_); go_loud (refine wpList_store_row rfl 32 (.tmp 2) (.tmp 152) rfl w.heap.size #[.int .i64 (v1 : Nat), .string id, .int .i64 (v3 : Nat), .int .u64 (vv : Nat), .int .u64 (ss : Nat)] rfl rfl 32 _ (HE.out.nth 2 rfl).blk (by kernel_rfl) rfl (by simp [Value.oneCell']) ?_; have HZ := Aside0.mk (Sat.setRow (HE.out.nth 2 rfl) #[.int .i64 (v1 : Nat), .string id, .int .i64 (v3 : Nat), .int .u64 (vv : Nat), .int .u64 (ss : Nat)]))))
    refine bodyPost_ret (results_ct rfl _ _ w.heap.size 32 #[.int .i64 (v1 : Nat), .string id, .int .i64 (v3 : Nat), .int .u64 (vv : Nat), .int .u64 (ss : Nat)] (0, 0) _ rfl HZ.out.blk Try.underlying32 rfl (by kernel_rfl)) rfl ?_
    exact ⟨by rw [HFI.out]; rfl, HZ.out.below⟩
end Go.Proofs.Ytnkcdopjhjmdnaa.CoW
namespace Go.Proofs.Ytnkcdopjhjmdnaa.QB
open Go.RowKit Go.Proofs.YtnkcdopjhjmdnaaW.PrintWords Go.Proofs.YtnkcdopjhjmdnaaW.PrintLast Go.Proofs.YtnkcdopjhjmdnaaW.PrintMore Go.Proofs.Ytnkcdopjhjmdnaa.Uv Go.Proofs.Ytnkcdopjhjmdnaa.UvP Go.Proofs.Ytnkcdopjhjmdnaa.CoW
set_option linter.unusedVariables false
def thermographref09_one.f (k : Nat) (l0 : List Int) : Option (Int × ByteArray × Int × Int × Int × Int) := if l0.length ≤ 1000000 ∧ (l0.all fun x => decide (0 ≤ x ∧ x < 256)) = true then some (oneF l0) else none
theorem thermographref09_one.mono : ∀ a0 k, LeO (thermographref09_one.f k a0) (thermographref09_one.f (k + 1) a0) := fun _ _ _ h => h
theorem thermographref09_one.calls (k : Nat) (A0 : Option Addr) (c0 : Nat) (l0 : List Int) (r1 : Int) (r2 : ByteArray) (r3 : Int) (r4 : Int) (r5 : Int) (r6 : Int) (w : World) (hr0 : Kd.C (Kd.int .u8) w A0 l0.length l0) (hc0 : l0.length ≤ c0) (h : thermographref09_one.f k l0 = some (r1, r2, r3, r4, r5, r6)) :
    Calls Try.prog 12 #[.slice A0 l0.length c0] w fun e w' => e = .returned (.tuple #[.agg #[.int .i64 r1, .string r2, .int .i64 r3, .int .u64 r4, .int .u64 r5], .int .i64 r6]) ∧ Below w.heap.size w w' := by
  unfold thermographref09_one.f at h
  split at h
  · rename_i hz
    have hb : Bytes l0 := fun x hx => by
      have := List.all_eq_true.1 hz.2 x hx
      simpa using this
    have h := Option.some.inj h
    have hc := one_calls w A0 c0 l0 hr0 hc0 hb hz.1
    rw [h] at hc
    exact hc
  · cases h
theorem thermographref09_one.f_eq {l : List Int} (hb : Bytes l) (hl : l.length ≤ 1000000) (k : Nat) : thermographref09_one.f k l = some (oneF l) := by
  unfold thermographref09_one.f
  rw [if_pos ⟨hl, List.all_eq_true.2 (fun x hx => by simpa using hb x hx)⟩]
end Go.Proofs.Ytnkcdopjhjmdnaa.QB
