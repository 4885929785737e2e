/- The law WireFields: its walk.
   The row of the law WireFields, out of the contract of its call. No condition beside the row's own. Written by a program of this session (row.py). -/
import Derived.Test.YtpjljhiohimgcaaZWireFields10
import Derived.Test.YtpjljhiohimgcaaZWireFields14
import Derived.Test.YtpjljhiohimgcaaZWireFields15
import Derived.Test.YtpjljhiohimgcaaZWireFields17
import Derived.Deep.CutBlock
import Derived.Test.YtpjljhiohimgcaaRows
import Derived.WalkKit
import Derived.ProofKit
import Derived.OpenShut
import Derived.ShutString
import Derived.ChangeOld
import Derived.Below
import Derived.SizedLaws
namespace Go.Proofs.Ytpjljhiohimgcaa.LwWireFields
open Go.RowKit Go.Proofs.YtpjljhiohimgcaaW.PrintWords Go.Proofs.YtpjljhiohimgcaaW.PrintLast Go.Proofs.YtpjljhiohimgcaaW.PrintMore Go.Proofs.Ytpjljhiohimgcaa.QB Go.Proofs.Ytpjljhiohimgcaa.Sl Go.Proofs.Ytpjljhiohimgcaa.WpP Go.Proofs.Ytpjljhiohimgcaa.MsO Go.Proofs.Ytpjljhiohimgcaa.SaW
set_option linter.unusedVariables false
set_option linter.unusedSimpArgs false
def xF (m X : Msg) : Msg := if m.kind = 2 then { X with err := m.err } else X
def xG (m X : Msg) : Msg := if m.kind = 7 then { X with space := m.space, shard := m.shard, block := m.block, id := m.id } else X
def xH (m X : Msg) : Msg := if m.kind = 1 then { X with space := m.space, id := m.id, t := m.t, v := m.v, s := m.s } else X
def x0 (m : Msg) : Msg := ⟨m.kind, m.seq, m.epoch, 0, 0, ⟨#[]⟩, 0, 0, 0, 0, 0, 0, 0, false, [], []⟩
def y0 (m n : Msg) : Msg := { n with kind := m.kind, seq := m.seq, epoch := m.epoch }
/-- What is no field of the kind changes nothing. -/
theorem enc_same (m n : Msg) (hk : m.kind = 2 ∨ m.kind = 7 ∨ m.kind = 1) : encR (xH m (xG m (xF m (x0 m)))) = encR (xH m (xG m (xF m (y0 m n)))) := by
  have h : kindE (xH m (xG m (xF m (x0 m)))) = kindE (xH m (xG m (xF m (y0 m n)))) := by
    funext b
    rcases hk with hk | hk | hk <;> simp [kindE, xF, xG, xH, x0, y0, hk]
  have h1 : (xH m (xG m (xF m (x0 m)))).kind = m.kind ∧ (xH m (xG m (xF m (y0 m n)))).kind = m.kind ∧ (xH m (xG m (xF m (x0 m)))).seq = m.seq ∧ (xH m (xG m (xF m (y0 m n)))).seq = m.seq ∧ (xH m (xG m (xF m (x0 m)))).epoch = m.epoch ∧ (xH m (xG m (xF m (y0 m n)))).epoch = m.epoch := by
    rcases hk with hk | hk | hk <;> simp [xF, xG, xH, x0, y0, hk]
  obtain ⟨a1, a2, a3, a4, a5, a6⟩ := h1
  unfold encR encM fieldsE
  rw [h, a1, a2, a3, a4, a5, a6]
theorem xy_lists (m X : Msg) : (xH m (xG m (xF m X))).ps = X.ps ∧ (xH m (xG m (xF m X))).ms = X.ms := by
  unfold xF xG xH
  constructor <;> (split <;> split <;> split <;> rfl)
theorem xy_okv (m X : Msg) (hm : (0 ≤ m.v ∧ m.v < 18446744073709551616) ∧ (0 ≤ m.s ∧ m.s < 18446744073709551616)) (hX : (0 ≤ X.v ∧ X.v < 18446744073709551616) ∧ (0 ≤ X.s ∧ X.s < 18446744073709551616)) :
    (0 ≤ (xH m (xG m (xF m X))).v ∧ (xH m (xG m (xF m X))).v < 18446744073709551616) ∧ (0 ≤ (xH m (xG m (xF m X))).s ∧ (xH m (xG m (xF m X))).s < 18446744073709551616) := by
  unfold xF xG xH
  split <;> split <;> split <;> first | exact hm | exact hX
def Wf.T12 : Bool × List (List Nat × List Nat) := (true, [([], []), ([0], [0]), ([], []), ([2], [2]), ([], []), ([4], [4]), ([], []), ([6], [6]), ([0, 1], []), ([8, 1, 0, 1], [1, 8]), ([0, 1, 2, 3, 8, 9], []), ([10, 3, 9, 0, 1, 2, 3, 8, 9], [3, 10]), ([0, 1, 2, 3, 4, 5, 8, 9, 10, 11], []), ([12, 5, 11, 0, 1, 2, 3, 4, 5, 8, 9, 10, 11], [5, 12]), ([0, 1, 2, 3, 4, 5, 6, 7, 8, 9, 10, 11, 12, 13], []), ([14, 7, 13, 0, 1, 2, 3, 4, 5, 6, 7, 8, 9, 10, 11, 12, 13], [7, 14])])
def Wf.B12 : List Nat := [0, 1, 0, 4, 0, 16, 0, 64, 3, 259, 783, 1807, 3903, 7999, 16383, 32767]
theorem Wf.tab12 : rtab .any (opsOf Try.f3 12) = Wf.T12 := by kernel_rfl
theorem Wf.bits12 : waitsOk Wf.T12.2 Wf.B12 = true := by kernel_rfl
def Wf.T13 : Bool × List (List Nat × List Nat) := (true, [([], []), ([0], [0]), ([], []), ([2], [2]), ([], []), ([4], [4]), ([], []), ([6], [6]), ([0, 1], []), ([8, 1, 0, 1], [1, 8]), ([0, 1, 2, 3, 8, 9], []), ([10, 3, 9, 0, 1, 2, 3, 8, 9], [3, 10]), ([0, 1, 2, 3, 4, 5, 8, 9, 10, 11], []), ([12, 5, 11, 0, 1, 2, 3, 4, 5, 8, 9, 10, 11], [5, 12]), ([0, 1, 2, 3, 4, 5, 6, 7, 8, 9, 10, 11, 12, 13], []), ([14, 7, 13, 0, 1, 2, 3, 4, 5, 6, 7, 8, 9, 10, 11, 12, 13], [7, 14])])
def Wf.B13 : List Nat := [0, 1, 0, 4, 0, 16, 0, 64, 3, 259, 783, 1807, 3903, 7999, 16383, 32767]
theorem Wf.tab13 : rtab .any (opsOf Try.f3 13) = Wf.T13 := by kernel_rfl
theorem Wf.bits13 : waitsOk Wf.T13.2 Wf.B13 = true := by kernel_rfl
def Wf.T15 : Bool × List (List Nat × List Nat) := (true, [([], []), ([0], [0]), ([], []), ([2], [2]), ([], []), ([4], [4]), ([0, 1], []), ([6, 1, 0, 1], [1, 6]), ([0, 1, 2, 3, 6, 7], []), ([8, 3, 7, 0, 1, 2, 3, 6, 7], [3, 8]), ([0, 1, 2, 3, 4, 5, 6, 7, 8, 9], []), ([10, 5, 9, 0, 1, 2, 3, 4, 5, 6, 7, 8, 9], [5, 10])])
def Wf.B15 : List Nat := [0, 1, 0, 4, 0, 16, 3, 67, 207, 463, 1023, 2047]
theorem Wf.tab15 : rtab .any (opsOf Try.f3 15) = Wf.T15 := by kernel_rfl
theorem Wf.bits15 : waitsOk Wf.T15.2 Wf.B15 = true := by kernel_rfl
def Wf.T16 : Bool × List (List Nat × List Nat) := (true, [([], []), ([0], [0]), ([], []), ([2], [2]), ([], []), ([4], [4]), ([0, 1], []), ([6, 1, 0, 1], [1, 6]), ([0, 1, 2, 3, 6, 7], []), ([8, 3, 7, 0, 1, 2, 3, 6, 7], [3, 8]), ([0, 1, 2, 3, 4, 5, 6, 7, 8, 9], []), ([10, 5, 9, 0, 1, 2, 3, 4, 5, 6, 7, 8, 9], [5, 10])])
def Wf.B16 : List Nat := [0, 1, 0, 4, 0, 16, 3, 67, 207, 463, 1023, 2047]
theorem Wf.tab16 : rtab .any (opsOf Try.f3 16) = Wf.T16 := by kernel_rfl
theorem Wf.bits16 : waitsOk Wf.T16.2 Wf.B16 = true := by kernel_rfl
set_option maxHeartbeats 16000000 in
set_option maxRecDepth 100000 in
theorem WireFields_calls (W : World) (m : Msg) (Ap : Option Addr) (cp : Nat) (Am : Option Addr) (cm : Nat) (hI0 : MIn0 W m Ap cp Am cm) (hz : SzMsg m) (n : Msg) (Bp : Option Addr) (dp : Nat) (Bm : Option Addr) (dm : Nat) (hJ0 : MIn0 W n Bp dp Bm dm) (hy : SzMsg n) :
    Calls Try.prog 3 #[.agg (m.cs (.slice Ap m.ps.length cp) (.slice Am m.ms.length cm)), .agg (n.cs (.slice Bp n.ps.length dp) (.slice Bm n.ms.length dm))] W fun e w' => e = .returned (.bool true) ∧ Below W.heap.size W w' := by
  obtain ⟨r, hr, hr2⟩ := heavy_ok m hz
  obtain ⟨t, ht, ht2⟩ := heavy_ok n hy
  have HRm := Aside0.mk hr
  have HRn := Aside0.mk ht
  have HM0 := Aside0.mk hI0
  have HN0 := Aside0.mk hJ0
  have H1 : Aside0 (Sat W ((W.alloc (.cells (m.cs (.slice Ap m.ps.length cp) (.slice Am m.ms.length cm)) 31)).alloc (.cells (n.cs (.slice Bp n.ps.length dp) (.slice Bm n.ms.length dm)) 31)) (Blk (W.heap.size + 1) (n.cs (.slice Bp n.ps.length dp) (.slice Bm n.ms.length dm)) 31 :: Blk W.heap.size (m.cs (.slice Ap m.ps.length cp) (.slice Am m.ms.length cm)) 31 :: [])) := ⟨by
    have h := ((Sat.start W).newBlk (m.cs (.slice Ap m.ps.length cp) (.slice Am m.ms.length cm)) 31).newBlk (n.cs (.slice Bp n.ps.length dp) (.slice Bm n.ms.length dm)) 31
    rw [alloc_size] at h
    exact h⟩
  clear hr ht hI0 hJ0 hz hy
  go_enter Try.func3, Try.ntmps3
  go_upto_region 1 with fail
  generalize (W.alloc (.cells (m.cs (.slice Ap m.ps.length cp) (.slice Am m.ms.length cm)) 31)).alloc (.cells (n.cs (.slice Bp n.ps.length dp) (.slice Bm n.ms.length dm)) 31) = w1 at H1 ⊢
  generalize W.heap.size + 1 = g2 at H1 ⊢
  generalize W.heap.size = g1 at H1 ⊢
  have HB1 := Aside0.mk (H1.out.nth 1 rfl).blk
  have HC1 := Aside0.mk H1.out.blk
  cases r with
  | true =>
    go_wp2_with (first | ((with_reducible refine gate_ (.load 31 (.tmp 2)) rfl ?_); go_loud (refine wpList_load_row rfl 31 (.tmp 2) rfl g1 rfl 31 _ (0, 0) _ HB1.out Try.underlying31 rfl (by kernel_rfl) ?_)) | (go_at_call 8; go_loud ((with_reducible refine (heavy_calls W _ _ m Ap cp Am cm _ HM0.out HRm.out H1.out).mono ?_); rintro e w2 ⟨rfl, hs⟩; have H2 := Aside0.mk hs; have HB2 := Aside0.mk (hs.nth 1 rfl).blk; clear hs)))
    go_ret
    exact ⟨rfl, H2.out.below⟩
  | false =>
    cases t with
    | true =>
      go_wp2_with (first | ((with_reducible refine gate_ (.load 31 (.tmp 2)) rfl ?_); go_loud (refine wpList_load_row rfl 31 (.tmp 2) rfl g1 rfl 31 _ (0, 0) _ HB1.out Try.underlying31 rfl (by kernel_rfl) ?_)) | (go_at_call 8; go_loud ((with_reducible refine (heavy_calls W _ _ m Ap cp Am cm _ HM0.out HRm.out H1.out).mono ?_); rintro e w2 ⟨rfl, hs⟩; have H2 := Aside0.mk hs; have c0 := hs.cell 0 (v := .int .i64 n.kind) rfl; have c1 := hs.cell 1 (v := .int .i64 n.seq) rfl; have c2 := hs.cell 2 (v := .int .i64 n.epoch) rfl; have c3 := hs.cell 3 (v := .int .i64 n.space) rfl; have c4 := hs.cell 4 (v := .int .i64 n.shard) rfl; have c5 := hs.cell 5 (v := .string n.id) rfl; have c6 := hs.cell 6 (v := .int .i64 n.block) rfl; have c7 := hs.cell 7 (v := .int .i64 n.lo) rfl; have c8 := hs.cell 8 (v := .int .i64 n.hi) rfl; have c9 := hs.cell 9 (v := .int .i64 n.t) rfl; have c10 := hs.cell 10 (v := .int .u64 n.v) rfl; have c11 := hs.cell 11 (v := .int .u64 n.s) rfl; have c12 := hs.cell 12 (v := .int .i64 n.err) rfl; have c13 := hs.cell 13 (v := .bool n.more) rfl; have c14 := hs.cell 14 (v := .slice Bp n.ps.length dp) rfl; have c15 := hs.cell 15 (v := .slice Bm n.ms.length dm) rfl; have HB2 := Aside0.mk (hs.nth 1 rfl).blk; clear hs)) | (go_at_call 8; go_loud ((refine (heavy_calls W _ _ n Bp dp Bm dm _ HN0.out HRn.out H2.out).mono ?_); rintro e w3 ⟨rfl, hs⟩; have H3 := Aside0.mk hs; have HB3 := Aside0.mk (hs.nth 1 rfl).blk; clear hs)))
      go_ret
      exact ⟨rfl, H3.out.below⟩
    | false =>
      obtain ⟨hz1, hz2, hz3⟩ := hr2 rfl
      obtain ⟨hy1, hy2, hy3⟩ := ht2 rfl
      have HI : Aside0 (MIn W m Ap cp Am cm) := ⟨HM0.out.small (by omega) (by omega)⟩
      have HJ : Aside0 (MIn W n Bp dp Bm dm) := ⟨HN0.out.small (by omega) (by omega)⟩
      clear hr2 ht2
      go_upto_region 3 with (first | ((with_reducible refine gate_ (.load 31 (.tmp 2)) rfl ?_); go_loud (refine wpList_load_row rfl 31 (.tmp 2) rfl g1 rfl 31 _ (0, 0) _ HB1.out Try.underlying31 rfl (by kernel_rfl) ?_)) | (go_at_call 8; go_loud ((with_reducible refine (heavy_calls W _ _ m Ap cp Am cm _ HM0.out HRm.out H1.out).mono ?_); rintro e w2 ⟨rfl, hs⟩; have H2 := Aside0.mk hs; have c0 := hs.cell 0 (v := .int .i64 n.kind) rfl; have c1 := hs.cell 1 (v := .int .i64 n.seq) rfl; have c2 := hs.cell 2 (v := .int .i64 n.epoch) rfl; have c3 := hs.cell 3 (v := .int .i64 n.space) rfl; have c4 := hs.cell 4 (v := .int .i64 n.shard) rfl; have c5 := hs.cell 5 (v := .string n.id) rfl; have c6 := hs.cell 6 (v := .int .i64 n.block) rfl; have c7 := hs.cell 7 (v := .int .i64 n.lo) rfl; have c8 := hs.cell 8 (v := .int .i64 n.hi) rfl; have c9 := hs.cell 9 (v := .int .i64 n.t) rfl; have c10 := hs.cell 10 (v := .int .u64 n.v) rfl; have c11 := hs.cell 11 (v := .int .u64 n.s) rfl; have c12 := hs.cell 12 (v := .int .i64 n.err) rfl; have c13 := hs.cell 13 (v := .bool n.more) rfl; have c14 := hs.cell 14 (v := .slice Bp n.ps.length dp) rfl; have c15 := hs.cell 15 (v := .slice Bm n.ms.length dm) rfl; have HB2 := Aside0.mk (hs.nth 1 rfl).blk; clear hs)) | (go_at_call 8; go_loud ((refine (heavy_calls W _ _ n Bp dp Bm dm _ HN0.out HRn.out H2.out).mono ?_); rintro e w3 ⟨rfl, hs⟩; have H3 := Aside0.mk hs; have HB3 := Aside0.mk (hs.nth 1 rfl).blk; clear hs)))
      have q0 := (H3.out.nth 1 rfl).cell 0 (v := .int .i64 m.kind) rfl
      have q1 := (H3.out.nth 1 rfl).cell 1 (v := .int .i64 m.seq) rfl
      have q2 := (H3.out.nth 1 rfl).cell 2 (v := .int .i64 m.epoch) rfl
      have HZ := Aside0.mk (H3.out.newBlk zM 31)
      clear HB1 HC1 HB2 HB3 H1 H2 c0 c1 c2 c3 c4 c5 c6 c7 c8 c9 c10 c11 c12 c13 c14 c15
      go_upto_region 4 with (first | ((with_reducible refine gate_store (p := 5) rfl ?_); go_loud (refine wpList_store_row rfl 31 (.tmp 5) (.tmp 25) rfl w3.heap.size ((x0 m).cs (.slice none 0 0) (.slice none 0 0)) rfl rfl 31 _ HZ.out.blk (by kernel_rfl) rfl (by simp [Msg.cs, Value.oneCell']) ?_; have H4 := Aside0.mk (HZ.out.setRow ((x0 m).cs (.slice none 0 0) (.slice none 0 0))))))
      obtain ⟨w4, hw4⟩ : ∃ w4, (w3.alloc (.cells zM 31)).setRow w3.heap.size ((x0 m).cs (.slice none 0 0) (.slice none 0 0)) = w4 := ⟨_, rfl⟩
      show Code.wp _ _ _ _ ((w3.alloc (.cells zM 31)).setRow w3.heap.size ((x0 m).cs (.slice none 0 0) (.slice none 0 0)))
      rw [hw4] at H4 ⊢
      generalize w3.heap.size = gx at H4 ⊢
      clear HZ H3 hw4 q0 q1 q2
      have HB4 := Aside0.mk (H4.out.nth 1 rfl).blk
      have HZ4 := Aside0.mk (H4.out.newBlk zM 31)
      have H5a := Aside0.mk (HZ4.out.setRow (n.cs (.slice Bp n.ps.length dp) (.slice Bm n.ms.length dm)))
      go_upto_region 5 with (first | ((with_reducible refine gate_ (.load 31 (.tmp 3)) rfl ?_); go_loud (refine wpList_load_row rfl 31 (.tmp 3) rfl g2 rfl 31 _ (0, 0) _ HB4.out Try.underlying31 rfl (by kernel_rfl) ?_)) | ((with_reducible refine gate_store (p := 6) rfl ?_); go_loud (refine wpList_store_row rfl 31 (.tmp 6) (.tmp 26) rfl w4.heap.size (n.cs (.slice Bp n.ps.length dp) (.slice Bm n.ms.length dm)) rfl rfl 31 _ HZ4.out.blk (by kernel_rfl) rfl (by simp [Msg.cs, Value.oneCell']) ?_)))
      obtain ⟨w5, hw5⟩ : ∃ w5, (w4.alloc (.cells zM 31)).setRow w4.heap.size (n.cs (.slice Bp n.ps.length dp) (.slice Bm n.ms.length dm)) = w5 := ⟨_, rfl⟩
      show Code.wp _ _ _ _ ((w4.alloc (.cells zM 31)).setRow w4.heap.size (n.cs (.slice Bp n.ps.length dp) (.slice Bm n.ms.length dm)))
      rw [hw5] at H5a ⊢
      generalize w4.heap.size = gy at H5a ⊢
      have H5 : Aside0 (Sat W w5 (Blk gx ((x0 m).cs (.slice none 0 0) (.slice none 0 0)) 31 :: Blk gy (n.cs (.slice Bp n.ps.length dp) (.slice Bm n.ms.length dm)) 31 :: Blk g1 (m.cs (.slice Ap m.ps.length cp) (.slice Am m.ms.length cm)) 31 :: Blk g2 (n.cs (.slice Bp n.ps.length dp) (.slice Bm n.ms.length dm)) 31 :: [])) := ⟨((H5a.out.nth 3 rfl).nth 1 rfl).nth 2 rfl⟩
      clear HZ4 HB4 H4 H5a hw5
      have a0 := (H5.out.nth 2 rfl).cell 0 (v := .int .i64 m.kind) rfl
      have b0 := (H5.out.nth 1 rfl).cell 0 (v := .int .i64 n.kind) rfl
      have f0 := (H5.out.nth 1 rfl).free 0
      have H6 : Aside0 (Sat W (w5.setCell ⟨gy, 0, none⟩ (.int .i64 m.kind)) (Blk gx ((x0 m).cs (.slice none 0 0) (.slice none 0 0)) 31 :: Blk gy (({ n with kind := m.kind } : Msg).cs (.slice Bp n.ps.length dp) (.slice Bm n.ms.length dm)) 31 :: Blk g1 (m.cs (.slice Ap m.ps.length cp) (.slice Am m.ms.length cm)) 31 :: Blk g2 (n.cs (.slice Bp n.ps.length dp) (.slice Bm n.ms.length dm)) 31 :: [])) := ⟨((H5.out.nth 1 rfl).setBlk 0 (.int .i64 m.kind)).nth 1 rfl⟩
      go_upto_region 6 with fail
      generalize w5.setCell ⟨gy, 0, none⟩ (.int .i64 m.kind) = w6 at H6 ⊢
      clear a0 b0 f0 H5
      have a0 := (H6.out.nth 2 rfl).cell 1 (v := .int .i64 m.seq) rfl
      have b0 := (H6.out.nth 1 rfl).cell 1 (v := .int .i64 n.seq) rfl
      have f0 := (H6.out.nth 1 rfl).free 1
      have H7 : Aside0 (Sat W (w6.setCell ⟨gy, 1, none⟩ (.int .i64 m.seq)) (Blk gx ((x0 m).cs (.slice none 0 0) (.slice none 0 0)) 31 :: Blk gy (({ n with kind := m.kind, seq := m.seq } : Msg).cs (.slice Bp n.ps.length dp) (.slice Bm n.ms.length dm)) 31 :: Blk g1 (m.cs (.slice Ap m.ps.length cp) (.slice Am m.ms.length cm)) 31 :: Blk g2 (n.cs (.slice Bp n.ps.length dp) (.slice Bm n.ms.length dm)) 31 :: [])) := ⟨((H6.out.nth 1 rfl).setBlk 1 (.int .i64 m.seq)).nth 1 rfl⟩
      go_upto_region 7 with fail
      generalize w6.setCell ⟨gy, 1, none⟩ (.int .i64 m.seq) = w7 at H7 ⊢
      clear a0 b0 f0 H6
      have a0 := (H7.out.nth 2 rfl).cell 2 (v := .int .i64 m.epoch) rfl
      have b0 := (H7.out.nth 1 rfl).cell 2 (v := .int .i64 n.epoch) rfl
      have f0 := (H7.out.nth 1 rfl).free 2
      have H8 : Aside0 (Sat W (w7.setCell ⟨gy, 2, none⟩ (.int .i64 m.epoch)) (Blk gx ((x0 m).cs (.slice none 0 0) (.slice none 0 0)) 31 :: Blk gy ((y0 m n).cs (.slice Bp n.ps.length dp) (.slice Bm n.ms.length dm)) 31 :: Blk g1 (m.cs (.slice Ap m.ps.length cp) (.slice Am m.ms.length cm)) 31 :: Blk g2 (n.cs (.slice Bp n.ps.length dp) (.slice Bm n.ms.length dm)) 31 :: [])) := ⟨((H7.out.nth 1 rfl).setBlk 2 (.int .i64 m.epoch)).nth 1 rfl⟩
      have k0 := (H8.out.nth 2 rfl).cell 0 (v := .int .i64 m.kind) rfl
      go_upto_if 38 with fail
      generalize w7.setCell ⟨gy, 2, none⟩ (.int .i64 m.epoch) = w8 at H8 k0 ⊢
      clear a0 b0 f0 H7 k0
      go_cut [] (fun wc => Aside0 (Sat W wc (Blk gx ((xF m (x0 m)).cs (.slice none 0 0) (.slice none 0 0)) 31 :: Blk gy ((xF m (y0 m n)).cs (.slice Bp n.ps.length dp) (.slice Bm n.ms.length dm)) 31 :: Blk g1 (m.cs (.slice Ap m.ps.length cp) (.slice Am m.ms.length cm)) 31 :: Blk g2 (n.cs (.slice Bp n.ps.length dp) (.slice Bm n.ms.length dm)) 31 :: [])))
      case first =>
        by_cases hk : m.kind = 2
        · have d1 : (m.kind == 2) = true := by rw [beq_iff_eq]; exact hk
          have EX := Aside0.mk (show xF m (x0 m) = { x0 m with err := m.err } from if_pos hk)
          have EY := Aside0.mk (show xF m (y0 m n) = { y0 m n with err := m.err } from if_pos hk)
          clear hk
          have a0 := (H8.out.nth 2 rfl).cell 12 (v := .int .i64 m.err) rfl
          have b0 := H8.out.cell 12 (v := .int .i64 0) rfl
          have f0 := H8.out.free 12
          have H9 : Aside0 (Sat W (w8.setCell ⟨gx, 12, none⟩ (.int .i64 m.err)) (Blk gx (({ x0 m with err := m.err } : Msg).cs (.slice none 0 0) (.slice none 0 0)) 31 :: Blk gy ((y0 m n).cs (.slice Bp n.ps.length dp) (.slice Bm n.ms.length dm)) 31 :: Blk g1 (m.cs (.slice Ap m.ps.length cp) (.slice Am m.ms.length cm)) 31 :: Blk g2 (n.cs (.slice Bp n.ps.length dp) (.slice Bm n.ms.length dm)) 31 :: [])) := ⟨H8.out.setBlk 12 (.int .i64 m.err)⟩
          go_upto_region 10 with fail
          generalize w8.setCell ⟨gx, 12, none⟩ (.int .i64 m.err) = w9 at H9 ⊢
          have a1 := (H9.out.nth 2 rfl).cell 12 (v := .int .i64 m.err) rfl
          have b1 := (H9.out.nth 1 rfl).cell 12 (v := .int .i64 n.err) rfl
          have f1 := (H9.out.nth 1 rfl).free 12
          clear a0 b0 f0
          go_wp2
          go_meet
          rw [EX.out, EY.out]
          exact ⟨((H9.out.nth 1 rfl).setBlk 12 (.int .i64 m.err)).nth 1 rfl⟩
        · have d1 : (m.kind == 2) = false := by rw [beq_eq_false_iff_ne]; exact hk
          have EX := Aside0.mk (show xF m (x0 m) = x0 m from if_neg hk)
          have EY := Aside0.mk (show xF m (y0 m n) = y0 m n from if_neg hk)
          clear hk
          go_wp2
          go_meet
          rw [EX.out, EY.out]
          exact H8
      case rest =>
        have H10 := hcut
        obtain ⟨X1, hX1⟩ : ∃ X, xF m (x0 m) = X := ⟨_, rfl⟩
        obtain ⟨Y1, hY1⟩ : ∃ X, xF m (y0 m n) = X := ⟨_, rfl⟩
        rw [hX1, hY1] at H10
        clear hcut H8
        have k0 := (H10.out.nth 2 rfl).cell 0 (v := .int .i64 m.kind) rfl
        go_upto_if 47 with fail
        clear k0
        go_cut [] (fun wc => Aside0 (Sat W wc (Blk gx ((xG m X1).cs (.slice none 0 0) (.slice none 0 0)) 31 :: Blk gy ((xG m Y1).cs (.slice Bp n.ps.length dp) (.slice Bm n.ms.length dm)) 31 :: Blk g1 (m.cs (.slice Ap m.ps.length cp) (.slice Am m.ms.length cm)) 31 :: Blk g2 (n.cs (.slice Bp n.ps.length dp) (.slice Bm n.ms.length dm)) 31 :: [])))
        case first =>
          by_cases hk : m.kind = 7
          · have d1 : (m.kind == 7) = true := by rw [beq_iff_eq]; exact hk
            have EX := Aside0.mk (show xG m X1 = { X1 with space := m.space, shard := m.shard, block := m.block, id := m.id } from if_pos hk)
            have EY := Aside0.mk (show xG m Y1 = { Y1 with space := m.space, shard := m.shard, block := m.block, id := m.id } from if_pos hk)
            clear hk
            have HP : Aside0 (Sat W wc (Blk gx (X1.cs (.slice none 0 0) (.slice none 0 0)) 31 :: Blk gy (Y1.cs (.slice Bp n.ps.length dp) (.slice Bm n.ms.length dm)) 31 :: Blk g1 (m.cs (.slice Ap m.ps.length cp) (.slice Am m.ms.length cm)) 31 :: Blk g2 (n.cs (.slice Bp n.ps.length dp) (.slice Bm n.ms.length dm)) 31 :: [])) := ⟨H10.out⟩
            have s3 := HP.out.cell 3 (v := .int .i64 X1.space) rfl
            have t3 := HP.out.free 3
            have s4 := HP.out.cell 4 (v := .int .i64 X1.shard) rfl
            have t4 := HP.out.free 4
            have s6 := HP.out.cell 6 (v := .int .i64 X1.block) rfl
            have t6 := HP.out.free 6
            have s5 := HP.out.cell 5 (v := .string X1.id) rfl
            have t5 := HP.out.free 5
            go_upto_region 12 with fail
            refine start_ (n := 16) (S := fun w' => w'.cell? ⟨g1, 3, none⟩ = some (.int .i64 m.space) ∧ w'.cell? ⟨g1, 4, none⟩ = some (.int .i64 m.shard) ∧ w'.cell? ⟨g1, 6, none⟩ = some (.int .i64 m.block) ∧ w'.cell? ⟨g1, 5, none⟩ = some (.string m.id)) (ds := [15]) #[false, false, false, false, false, false, false, false, false, false, false, false, false, false, false, false] (by kernel_rfl) rfl rfl ⟨((HP.out.drew.nth 2 rfl).cell 3 rfl), ((HP.out.drew.nth 2 rfl).cell 4 rfl), ((HP.out.drew.nth 2 rfl).cell 6 rfl), ((HP.out.drew.nth 2 rfl).cell 5 rfl)⟩ (fun hHeld => ?_)
            refine with_tabW Wf.tab12 Wf.bits12 (fun HT_ HW_ => ?_)
            refine pure_ (i := 0) (N := some 48) (v := ?_) (a' := ?_) #[true, false, false, false, false, false, false, false, false, false, false, false, false, false, false, false] rfl rfl (any_of HT_.out (by kernel_rfl)) (fun _ _ _ h => h) (Or.inl ⟨by rfl, ?_⟩) ?_ ?_
            rotate_left
            · intro w'
              go_simp
              with_reducible rfl
            rotate_left
            · simp only [Act.put, List.setIfInBounds_toArray, List.set_cons_zero, List.set_cons_succ, i64_w, i32_w]
              rfl
            refine pure_ (i := 2) (N := some 50) (v := ?_) (a' := ?_) #[true, false, true, false, false, false, false, false, false, false, false, false, false, false, false, false] rfl rfl (any_of HT_.out (by kernel_rfl)) (fun _ _ _ h => h) (Or.inl ⟨by rfl, ?_⟩) ?_ ?_
            rotate_left
            · intro w'
              go_simp
              with_reducible rfl
            rotate_left
            · simp only [Act.put, List.setIfInBounds_toArray, List.set_cons_zero, List.set_cons_succ, i64_w, i32_w]
              rfl
            refine pure_ (i := 4) (N := some 52) (v := ?_) (a' := ?_) #[true, false, true, false, true, false, false, false, false, false, false, false, false, false, false, false] rfl rfl (any_of HT_.out (by kernel_rfl)) (fun _ _ _ h => h) (Or.inl ⟨by rfl, ?_⟩) ?_ ?_
            rotate_left
            · intro w'
              go_simp
              with_reducible rfl
            rotate_left
            · simp only [Act.put, List.setIfInBounds_toArray, List.set_cons_zero, List.set_cons_succ, i64_w, i32_w]
              rfl
            refine pure_ (i := 6) (N := some 54) (v := ?_) (a' := ?_) #[true, false, true, false, true, false, true, false, false, false, false, false, false, false, false, false] rfl rfl (any_of HT_.out (by kernel_rfl)) (fun _ _ _ h => h) (Or.inl ⟨by rfl, ?_⟩) ?_ ?_
            rotate_left
            · intro w'
              go_simp
              with_reducible rfl
            rotate_left
            · simp only [Act.put, List.setIfInBounds_toArray, List.set_cons_zero, List.set_cons_succ, i64_w, i32_w]
              rfl
            refine take_ (i := 1) (N := some 49) (v := ?_) (a' := ?_) #[true, true, true, false, true, false, true, false, false, false, false, false, false, false, false, false] rfl rfl (take_ofW HT_.out HW_.out (by kernel_rfl)) (fun _ _ _ h => h) (Or.inl ⟨by rfl, ?_⟩) hHeld ?_ ?_
            rotate_left
            · rintro w' ⟨s0, s1, s2, s3⟩
              go_simp
              with_reducible rfl
            rotate_left
            · simp only [Act.put, List.setIfInBounds_toArray, List.set_cons_zero, List.set_cons_succ, i64_w, i32_w]
              rfl
            refine pure_ (i := 8) (N := some 56) (v := ?_) (a' := ?_) #[true, true, true, false, true, false, true, false, true, false, false, false, false, false, false, false] rfl rfl (any_of HT_.out (by kernel_rfl)) (fun _ _ _ h => h) (Or.inl ⟨by rfl, ?_⟩) ?_ ?_
            rotate_left
            · intro w'
              go_simp
              with_reducible rfl
            rotate_left
            · simp only [Act.put, List.setIfInBounds_toArray, List.set_cons_zero, List.set_cons_succ, i64_w, i32_w]
              rfl
            refine take_ (i := 3) (N := some 51) (v := ?_) (a' := ?_) #[true, true, true, true, true, false, true, false, true, false, false, false, false, false, false, false] rfl rfl (take_ofW HT_.out HW_.out (by kernel_rfl)) (fun _ _ _ h => h) (Or.inl ⟨by rfl, ?_⟩) hHeld ?_ ?_
            rotate_left
            · rintro w' ⟨s0, s1, s2, s3⟩
              go_simp
              with_reducible rfl
            rotate_left
            · simp only [Act.put, List.setIfInBounds_toArray, List.set_cons_zero, List.set_cons_succ, i64_w, i32_w]
              rfl
            refine take_ (i := 5) (N := some 53) (v := ?_) (a' := ?_) #[true, true, true, true, true, true, true, false, true, false, false, false, false, false, false, false] rfl rfl (take_ofW HT_.out HW_.out (by kernel_rfl)) (fun _ _ _ h => h) (Or.inl ⟨by rfl, ?_⟩) hHeld ?_ ?_
            rotate_left
            · rintro w' ⟨s0, s1, s2, s3⟩
              go_simp
              with_reducible rfl
            rotate_left
            · simp only [Act.put, List.setIfInBounds_toArray, List.set_cons_zero, List.set_cons_succ, i64_w, i32_w]
              rfl
            refine take_ (i := 7) (N := some 55) (v := ?_) (a' := ?_) #[true, true, true, true, true, true, true, true, true, false, false, false, false, false, false, false] rfl rfl (take_ofW HT_.out HW_.out (by kernel_rfl)) (fun _ _ _ h => h) (Or.inl ⟨by rfl, ?_⟩) hHeld ?_ ?_
            rotate_left
            · rintro w' ⟨s0, s1, s2, s3⟩
              go_simp
              with_reducible rfl
            rotate_left
            · simp only [Act.put, List.setIfInBounds_toArray, List.set_cons_zero, List.set_cons_succ, i64_w, i32_w]
              rfl
            refine one_ (i := 9) (N := none) #[true, true, true, true, true, true, true, true, true, true, false, false, false, false, false, false] rfl rfl (one_of HT_.out (by kernel_rfl)) (by decide) (fun K hK => ?_)
            refine skip_ (w1 := ?_) (by rfl) rfl ?_ ?_
            rotate_left
            · go_simp
              rfl
            have HP_0 : Aside0 (Sat W _ (Blk gx ({ X1 with space := m.space }.cs (.slice none 0 0) (.slice none 0 0)) 31 :: Blk gy (Y1.cs (.slice Bp n.ps.length dp) (.slice Bm n.ms.length dm)) 31 :: Blk g1 (m.cs (.slice Ap m.ps.length cp) (.slice Am m.ms.length cm)) 31 :: Blk g2 (n.cs (.slice Bp n.ps.length dp) (.slice Bm n.ms.length dm)) 31 :: [])) := ⟨((HP.out.nth 0 rfl).setBlk 3 (.int .i64 m.space))⟩
            refine hK.out _ _ ⟨((HP_0.out.drew.nth 2 rfl).cell 3 rfl), ((HP_0.out.drew.nth 2 rfl).cell 4 rfl), ((HP_0.out.drew.nth 2 rfl).cell 6 rfl), ((HP_0.out.drew.nth 2 rfl).cell 5 rfl)⟩ (fun hHeld => ?_)
            clear hK K
            refine pure_ (i := 10) (N := some 57) (v := ?_) (a' := ?_) #[true, true, true, true, true, true, true, true, true, true, true, false, false, false, false, false] rfl rfl (any_of HT_.out (by kernel_rfl)) (fun _ _ _ h => h) (Or.inl ⟨by rfl, ?_⟩) ?_ ?_
            rotate_left
            · intro w'
              go_simp
              with_reducible rfl
            rotate_left
            · simp only [Act.put, List.setIfInBounds_toArray, List.set_cons_zero, List.set_cons_succ, i64_w, i32_w]
              rfl
            refine one_ (i := 11) (N := none) #[true, true, true, true, true, true, true, true, true, true, true, true, false, false, false, false] rfl rfl (one_of HT_.out (by kernel_rfl)) (by decide) (fun K hK => ?_)
            refine skip_ (w1 := ?_) (by rfl) rfl ?_ ?_
            rotate_left
            · go_simp
              rfl
            have HP_1 : Aside0 (Sat W _ (Blk gx ({ X1 with space := m.space, shard := m.shard }.cs (.slice none 0 0) (.slice none 0 0)) 31 :: Blk gy (Y1.cs (.slice Bp n.ps.length dp) (.slice Bm n.ms.length dm)) 31 :: Blk g1 (m.cs (.slice Ap m.ps.length cp) (.slice Am m.ms.length cm)) 31 :: Blk g2 (n.cs (.slice Bp n.ps.length dp) (.slice Bm n.ms.length dm)) 31 :: [])) := ⟨((HP_0.out.nth 0 rfl).setBlk 4 (.int .i64 m.shard))⟩
            refine hK.out _ _ ⟨((HP_1.out.drew.nth 2 rfl).cell 3 rfl), ((HP_1.out.drew.nth 2 rfl).cell 4 rfl), ((HP_1.out.drew.nth 2 rfl).cell 6 rfl), ((HP_1.out.drew.nth 2 rfl).cell 5 rfl)⟩ (fun hHeld => ?_)
            clear hK K
            refine pure_ (i := 12) (N := some 58) (v := ?_) (a' := ?_) #[true, true, true, true, true, true, true, true, true, true, true, true, true, false, false, false] rfl rfl (any_of HT_.out (by kernel_rfl)) (fun _ _ _ h => h) (Or.inl ⟨by rfl, ?_⟩) ?_ ?_
            rotate_left
            · intro w'
              go_simp
              with_reducible rfl
            rotate_left
            · simp only [Act.put, List.setIfInBounds_toArray, List.set_cons_zero, List.set_cons_succ, i64_w, i32_w]
              rfl
            refine one_ (i := 13) (N := none) #[true, true, true, true, true, true, true, true, true, true, true, true, true, true, false, false] rfl rfl (one_of HT_.out (by kernel_rfl)) (by decide) (fun K hK => ?_)
            refine skip_ (w1 := ?_) (by rfl) rfl ?_ ?_
            rotate_left
            · go_simp
              rfl
            have HP_2 : Aside0 (Sat W _ (Blk gx ({ X1 with space := m.space, shard := m.shard, block := m.block }.cs (.slice none 0 0) (.slice none 0 0)) 31 :: Blk gy (Y1.cs (.slice Bp n.ps.length dp) (.slice Bm n.ms.length dm)) 31 :: Blk g1 (m.cs (.slice Ap m.ps.length cp) (.slice Am m.ms.length cm)) 31 :: Blk g2 (n.cs (.slice Bp n.ps.length dp) (.slice Bm n.ms.length dm)) 31 :: [])) := ⟨((HP_1.out.nth 0 rfl).setBlk 6 (.int .i64 m.block))⟩
            refine hK.out _ _ ⟨((HP_2.out.drew.nth 2 rfl).cell 3 rfl), ((HP_2.out.drew.nth 2 rfl).cell 4 rfl), ((HP_2.out.drew.nth 2 rfl).cell 6 rfl), ((HP_2.out.drew.nth 2 rfl).cell 5 rfl)⟩ (fun hHeld => ?_)
            clear hK K
            refine pure_ (i := 14) (N := some 59) (v := ?_) (a' := ?_) #[true, true, true, true, true, true, true, true, true, true, true, true, true, true, true, false] rfl rfl (any_of HT_.out (by kernel_rfl)) (fun _ _ _ h => h) (Or.inl ⟨by rfl, ?_⟩) ?_ ?_
            rotate_left
            · intro w'
              go_simp
              with_reducible rfl
            rotate_left
            · simp only [Act.put, List.setIfInBounds_toArray, List.set_cons_zero, List.set_cons_succ, i64_w, i32_w]
              rfl
            refine last_ (i := 15) (N := none) #[true, true, true, true, true, true, true, true, true, true, true, true, true, true, true, true] rfl rfl (one_of HT_.out (by kernel_rfl)) (by decide) (fun K hK => ?_)
            refine skip_ (w1 := ?_) (by rfl) rfl ?_ ?_
            rotate_left
            · go_simp
              rfl
            have HP_3 : Aside0 (Sat W _ (Blk gx ({ X1 with space := m.space, shard := m.shard, block := m.block, id := m.id }.cs (.slice none 0 0) (.slice none 0 0)) 31 :: Blk gy (Y1.cs (.slice Bp n.ps.length dp) (.slice Bm n.ms.length dm)) 31 :: Blk g1 (m.cs (.slice Ap m.ps.length cp) (.slice Am m.ms.length cm)) 31 :: Blk g2 (n.cs (.slice Bp n.ps.length dp) (.slice Bm n.ms.length dm)) 31 :: [])) := ⟨((HP_2.out.nth 0 rfl).setBlk 5 (.string m.id))⟩
            refine hK.out _ _ ?_
            clear hK K
            refine done_ (done_of HT_.out (by kernel_rfl)) ?_
            go_upto_region 13 with fail
            have HQ0 := Aside0.mk HP_3.out.drew
            obtain ⟨wq, hwq⟩ : ∃ wq, ((((wc.setCell ⟨gx, 3, none⟩ (.int .i64 m.space)).setCell ⟨gx, 4, none⟩ (.int .i64 m.shard)).setCell ⟨gx, 6, none⟩ (.int .i64 m.block)).setCell ⟨gx, 5, none⟩ (.string m.id)).drew = wq := ⟨_, rfl⟩
            rw [hwq] at HQ0 ⊢
            have HQ : Aside0 (Sat W wq (Blk gx ({ X1 with space := m.space, shard := m.shard, block := m.block, id := m.id }.cs (.slice none 0 0) (.slice none 0 0)) 31 :: Blk gy (Y1.cs (.slice Bp n.ps.length dp) (.slice Bm n.ms.length dm)) 31 :: Blk g1 (m.cs (.slice Ap m.ps.length cp) (.slice Am m.ms.length cm)) 31 :: Blk g2 (n.cs (.slice Bp n.ps.length dp) (.slice Bm n.ms.length dm)) 31 :: [])) := HQ0
            clear hwq hHeld HQ0 s3 t3 s4 t4 s6 t6 s5 t5
            have s3 := (HQ.out.nth 1 rfl).cell 3 (v := .int .i64 Y1.space) rfl
            have t3 := (HQ.out.nth 1 rfl).free 3
            have s4 := (HQ.out.nth 1 rfl).cell 4 (v := .int .i64 Y1.shard) rfl
            have t4 := (HQ.out.nth 1 rfl).free 4
            have s6 := (HQ.out.nth 1 rfl).cell 6 (v := .int .i64 Y1.block) rfl
            have t6 := (HQ.out.nth 1 rfl).free 6
            have s5 := (HQ.out.nth 1 rfl).cell 5 (v := .string Y1.id) rfl
            have t5 := (HQ.out.nth 1 rfl).free 5
            refine start_ (n := 16) (S := fun w' => w'.cell? ⟨g1, 3, none⟩ = some (.int .i64 m.space) ∧ w'.cell? ⟨g1, 4, none⟩ = some (.int .i64 m.shard) ∧ w'.cell? ⟨g1, 6, none⟩ = some (.int .i64 m.block) ∧ w'.cell? ⟨g1, 5, none⟩ = some (.string m.id)) (ds := [15]) #[false, false, false, false, false, false, false, false, false, false, false, false, false, false, false, false] (by kernel_rfl) rfl rfl ⟨((HQ.out.drew.nth 2 rfl).cell 3 rfl), ((HQ.out.drew.nth 2 rfl).cell 4 rfl), ((HQ.out.drew.nth 2 rfl).cell 6 rfl), ((HQ.out.drew.nth 2 rfl).cell 5 rfl)⟩ (fun hHeld => ?_)
            refine with_tabW Wf.tab13 Wf.bits13 (fun HT_ HW_ => ?_)
            refine pure_ (i := 0) (N := some 60) (v := ?_) (a' := ?_) #[true, false, false, false, false, false, false, false, false, false, false, false, false, false, false, false] rfl rfl (any_of HT_.out (by kernel_rfl)) (fun _ _ _ h => h) (Or.inl ⟨by rfl, ?_⟩) ?_ ?_
            rotate_left
            · intro w'
              go_simp
              with_reducible rfl
            rotate_left
            · simp only [Act.put, List.setIfInBounds_toArray, List.set_cons_zero, List.set_cons_succ, i64_w, i32_w]
              rfl
            refine pure_ (i := 2) (N := some 62) (v := ?_) (a' := ?_) #[true, false, true, false, false, false, false, false, false, false, false, false, false, false, false, false] rfl rfl (any_of HT_.out (by kernel_rfl)) (fun _ _ _ h => h) (Or.inl ⟨by rfl, ?_⟩) ?_ ?_
            rotate_left
            · intro w'
              go_simp
              with_reducible rfl
            rotate_left
            · simp only [Act.put, List.setIfInBounds_toArray, List.set_cons_zero, List.set_cons_succ, i64_w, i32_w]
              rfl
            refine pure_ (i := 4) (N := some 64) (v := ?_) (a' := ?_) #[true, false, true, false, true, false, false, false, false, false, false, false, false, false, false, false] rfl rfl (any_of HT_.out (by kernel_rfl)) (fun _ _ _ h => h) (Or.inl ⟨by rfl, ?_⟩) ?_ ?_
            rotate_left
            · intro w'
              go_simp
              with_reducible rfl
            rotate_left
            · simp only [Act.put, List.setIfInBounds_toArray, List.set_cons_zero, List.set_cons_succ, i64_w, i32_w]
              rfl
            refine pure_ (i := 6) (N := some 66) (v := ?_) (a' := ?_) #[true, false, true, false, true, false, true, false, false, false, false, false, false, false, false, false] rfl rfl (any_of HT_.out (by kernel_rfl)) (fun _ _ _ h => h) (Or.inl ⟨by rfl, ?_⟩) ?_ ?_
            rotate_left
            · intro w'
              go_simp
              with_reducible rfl
            rotate_left
            · simp only [Act.put, List.setIfInBounds_toArray, List.set_cons_zero, List.set_cons_succ, i64_w, i32_w]
              rfl
            refine take_ (i := 1) (N := some 61) (v := ?_) (a' := ?_) #[true, true, true, false, true, false, true, false, false, false, false, false, false, false, false, false] rfl rfl (take_ofW HT_.out HW_.out (by kernel_rfl)) (fun _ _ _ h => h) (Or.inl ⟨by rfl, ?_⟩) hHeld ?_ ?_
            rotate_left
            · rintro w' ⟨s0, s1, s2, s3⟩
              go_simp
              with_reducible rfl
            rotate_left
            · simp only [Act.put, List.setIfInBounds_toArray, List.set_cons_zero, List.set_cons_succ, i64_w, i32_w]
              rfl
            refine pure_ (i := 8) (N := some 68) (v := ?_) (a' := ?_) #[true, true, true, false, true, false, true, false, true, false, false, false, false, false, false, false] rfl rfl (any_of HT_.out (by kernel_rfl)) (fun _ _ _ h => h) (Or.inl ⟨by rfl, ?_⟩) ?_ ?_
            rotate_left
            · intro w'
              go_simp
              with_reducible rfl
            rotate_left
            · simp only [Act.put, List.setIfInBounds_toArray, List.set_cons_zero, List.set_cons_succ, i64_w, i32_w]
              rfl
            refine take_ (i := 3) (N := some 63) (v := ?_) (a' := ?_) #[true, true, true, true, true, false, true, false, true, false, false, false, false, false, false, false] rfl rfl (take_ofW HT_.out HW_.out (by kernel_rfl)) (fun _ _ _ h => h) (Or.inl ⟨by rfl, ?_⟩) hHeld ?_ ?_
            rotate_left
            · rintro w' ⟨s0, s1, s2, s3⟩
              go_simp
              with_reducible rfl
            rotate_left
            · simp only [Act.put, List.setIfInBounds_toArray, List.set_cons_zero, List.set_cons_succ, i64_w, i32_w]
              rfl
            refine take_ (i := 5) (N := some 65) (v := ?_) (a' := ?_) #[true, true, true, true, true, true, true, false, true, false, false, false, false, false, false, false] rfl rfl (take_ofW HT_.out HW_.out (by kernel_rfl)) (fun _ _ _ h => h) (Or.inl ⟨by rfl, ?_⟩) hHeld ?_ ?_
            rotate_left
            · rintro w' ⟨s0, s1, s2, s3⟩
              go_simp
              with_reducible rfl
            rotate_left
            · simp only [Act.put, List.setIfInBounds_toArray, List.set_cons_zero, List.set_cons_succ, i64_w, i32_w]
              rfl
            refine take_ (i := 7) (N := some 67) (v := ?_) (a' := ?_) #[true, true, true, true, true, true, true, true, true, false, false, false, false, false, false, false] rfl rfl (take_ofW HT_.out HW_.out (by kernel_rfl)) (fun _ _ _ h => h) (Or.inl ⟨by rfl, ?_⟩) hHeld ?_ ?_
            rotate_left
            · rintro w' ⟨s0, s1, s2, s3⟩
              go_simp
              with_reducible rfl
            rotate_left
            · simp only [Act.put, List.setIfInBounds_toArray, List.set_cons_zero, List.set_cons_succ, i64_w, i32_w]
              rfl
            refine one_ (i := 9) (N := none) #[true, true, true, true, true, true, true, true, true, true, false, false, false, false, false, false] rfl rfl (one_of HT_.out (by kernel_rfl)) (by decide) (fun K hK => ?_)
            refine skip_ (w1 := ?_) (by rfl) rfl ?_ ?_
            rotate_left
            · go_simp
              rfl
            have HQ_0 : Aside0 (Sat W _ (Blk gx ({ X1 with space := m.space, shard := m.shard, block := m.block, id := m.id }.cs (.slice none 0 0) (.slice none 0 0)) 31 :: Blk gy ({ Y1 with space := m.space }.cs (.slice Bp n.ps.length dp) (.slice Bm n.ms.length dm)) 31 :: Blk g1 (m.cs (.slice Ap m.ps.length cp) (.slice Am m.ms.length cm)) 31 :: Blk g2 (n.cs (.slice Bp n.ps.length dp) (.slice Bm n.ms.length dm)) 31 :: [])) := ⟨(((HQ.out.nth 1 rfl).setBlk 3 (.int .i64 m.space)).nth 1 rfl)⟩
            refine hK.out _ _ ⟨((HQ_0.out.drew.nth 2 rfl).cell 3 rfl), ((HQ_0.out.drew.nth 2 rfl).cell 4 rfl), ((HQ_0.out.drew.nth 2 rfl).cell 6 rfl), ((HQ_0.out.drew.nth 2 rfl).cell 5 rfl)⟩ (fun hHeld => ?_)
            clear hK K
            refine pure_ (i := 10) (N := some 69) (v := ?_) (a' := ?_) #[true, true, true, true, true, true, true, true, true, true, true, false, false, false, false, false] rfl rfl (any_of HT_.out (by kernel_rfl)) (fun _ _ _ h => h) (Or.inl ⟨by rfl, ?_⟩) ?_ ?_
            rotate_left
            · intro w'
              go_simp
              with_reducible rfl
            rotate_left
            · simp only [Act.put, List.setIfInBounds_toArray, List.set_cons_zero, List.set_cons_succ, i64_w, i32_w]
              rfl
            refine one_ (i := 11) (N := none) #[true, true, true, true, true, true, true, true, true, true, true, true, false, false, false, false] rfl rfl (one_of HT_.out (by kernel_rfl)) (by decide) (fun K hK => ?_)
            refine skip_ (w1 := ?_) (by rfl) rfl ?_ ?_
            rotate_left
            · go_simp
              rfl
            have HQ_1 : Aside0 (Sat W _ (Blk gx ({ X1 with space := m.space, shard := m.shard, block := m.block, id := m.id }.cs (.slice none 0 0) (.slice none 0 0)) 31 :: Blk gy ({ Y1 with space := m.space, shard := m.shard }.cs (.slice Bp n.ps.length dp) (.slice Bm n.ms.length dm)) 31 :: Blk g1 (m.cs (.slice Ap m.ps.length cp) (.slice Am m.ms.length cm)) 31 :: Blk g2 (n.cs (.slice Bp n.ps.length dp) (.slice Bm n.ms.length dm)) 31 :: [])) := ⟨(((HQ_0.out.nth 1 rfl).setBlk 4 (.int .i64 m.shard)).nth 1 rfl)⟩
            refine hK.out _ _ ⟨((HQ_1.out.drew.nth 2 rfl).cell 3 rfl), ((HQ_1.out.drew.nth 2 rfl).cell 4 rfl), ((HQ_1.out.drew.nth 2 rfl).cell 6 rfl), ((HQ_1.out.drew.nth 2 rfl).cell 5 rfl)⟩ (fun hHeld => ?_)
            clear hK K
            refine pure_ (i := 12) (N := some 70) (v := ?_) (a' := ?_) #[true, true, true, true, true, true, true, true, true, true, true, true, true, false, false, false] rfl rfl (any_of HT_.out (by kernel_rfl)) (fun _ _ _ h => h) (Or.inl ⟨by rfl, ?_⟩) ?_ ?_
            rotate_left
            · intro w'
              go_simp
              with_reducible rfl
            rotate_left
            · simp only [Act.put, List.setIfInBounds_toArray, List.set_cons_zero, List.set_cons_succ, i64_w, i32_w]
              rfl
            refine one_ (i := 13) (N := none) #[true, true, true, true, true, true, true, true, true, true, true, true, true, true, false, false] rfl rfl (one_of HT_.out (by kernel_rfl)) (by decide) (fun K hK => ?_)
            refine skip_ (w1 := ?_) (by rfl) rfl ?_ ?_
            rotate_left
            · go_simp
              rfl
            have HQ_2 : Aside0 (Sat W _ (Blk gx ({ X1 with space := m.space, shard := m.shard, block := m.block, id := m.id }.cs (.slice none 0 0) (.slice none 0 0)) 31 :: Blk gy ({ Y1 with space := m.space, shard := m.shard, block := m.block }.cs (.slice Bp n.ps.length dp) (.slice Bm n.ms.length dm)) 31 :: Blk g1 (m.cs (.slice Ap m.ps.length cp) (.slice Am m.ms.length cm)) 31 :: Blk g2 (n.cs (.slice Bp n.ps.length dp) (.slice Bm n.ms.length dm)) 31 :: [])) := ⟨(((HQ_1.out.nth 1 rfl).setBlk 6 (.int .i64 m.block)).nth 1 rfl)⟩
            refine hK.out _ _ ⟨((HQ_2.out.drew.nth 2 rfl).cell 3 rfl), ((HQ_2.out.drew.nth 2 rfl).cell 4 rfl), ((HQ_2.out.drew.nth 2 rfl).cell 6 rfl), ((HQ_2.out.drew.nth 2 rfl).cell 5 rfl)⟩ (fun hHeld => ?_)
            clear hK K
            refine pure_ (i := 14) (N := some 71) (v := ?_) (a' := ?_) #[true, true, true, true, true, true, true, true, true, true, true, true, true, true, true, false] rfl rfl (any_of HT_.out (by kernel_rfl)) (fun _ _ _ h => h) (Or.inl ⟨by rfl, ?_⟩) ?_ ?_
            rotate_left
            · intro w'
              go_simp
              with_reducible rfl
            rotate_left
            · simp only [Act.put, List.setIfInBounds_toArray, List.set_cons_zero, List.set_cons_succ, i64_w, i32_w]
              rfl
            refine last_ (i := 15) (N := none) #[true, true, true, true, true, true, true, true, true, true, true, true, true, true, true, true] rfl rfl (one_of HT_.out (by kernel_rfl)) (by decide) (fun K hK => ?_)
            refine skip_ (w1 := ?_) (by rfl) rfl ?_ ?_
            rotate_left
            · go_simp
              rfl
            have HQ_3 : Aside0 (Sat W _ (Blk gx ({ X1 with space := m.space, shard := m.shard, block := m.block, id := m.id }.cs (.slice none 0 0) (.slice none 0 0)) 31 :: Blk gy ({ Y1 with space := m.space, shard := m.shard, block := m.block, id := m.id }.cs (.slice Bp n.ps.length dp) (.slice Bm n.ms.length dm)) 31 :: Blk g1 (m.cs (.slice Ap m.ps.length cp) (.slice Am m.ms.length cm)) 31 :: Blk g2 (n.cs (.slice Bp n.ps.length dp) (.slice Bm n.ms.length dm)) 31 :: [])) := ⟨(((HQ_2.out.nth 1 rfl).setBlk 5 (.string m.id)).nth 1 rfl)⟩
            refine hK.out _ _ ?_
            clear hK K
            refine done_ (done_of HT_.out (by kernel_rfl)) ?_
            go_wp2
            go_meet
            rw [EX.out, EY.out]
            exact ⟨HQ_3.out.drew⟩
          · have d1 : (m.kind == 7) = false := by rw [beq_eq_false_iff_ne]; exact hk
            have EX := Aside0.mk (show xG m X1 = X1 from if_neg hk)
            have EY := Aside0.mk (show xG m Y1 = Y1 from if_neg hk)
            clear hk
            go_wp2
            go_meet
            rw [EX.out, EY.out]
            exact H10
        case rest =>
          have H10o := H10
          clear H10
          have H10 := hcut
          obtain ⟨X2, hX2⟩ : ∃ X, xG m X1 = X := ⟨_, rfl⟩
          obtain ⟨Y2, hY2⟩ : ∃ X, xG m Y1 = X := ⟨_, rfl⟩
          rw [hX2, hY2] at H10
          clear hcut H10o
          have k0 := (H10.out.nth 2 rfl).cell 0 (v := .int .i64 m.kind) rfl
          go_upto_if 74 with fail
          clear k0
          go_cut [] (fun wc => Aside0 (Sat W wc (Blk gx ((xH m X2).cs (.slice none 0 0) (.slice none 0 0)) 31 :: Blk gy ((xH m Y2).cs (.slice Bp n.ps.length dp) (.slice Bm n.ms.length dm)) 31 :: Blk g1 (m.cs (.slice Ap m.ps.length cp) (.slice Am m.ms.length cm)) 31 :: Blk g2 (n.cs (.slice Bp n.ps.length dp) (.slice Bm n.ms.length dm)) 31 :: [])))
          case first =>
            by_cases hk : m.kind = 1
            · have d1 : (m.kind == 1) = true := by rw [beq_iff_eq]; exact hk
              have EX := Aside0.mk (show xH m X2 = { X2 with space := m.space, id := m.id, t := m.t, v := m.v, s := m.s } from if_pos hk)
              have EY := Aside0.mk (show xH m Y2 = { Y2 with space := m.space, id := m.id, t := m.t, v := m.v, s := m.s } from if_pos hk)
              clear hk
              have HP : Aside0 (Sat W wc (Blk gx (X2.cs (.slice none 0 0) (.slice none 0 0)) 31 :: Blk gy (Y2.cs (.slice Bp n.ps.length dp) (.slice Bm n.ms.length dm)) 31 :: Blk g1 (m.cs (.slice Ap m.ps.length cp) (.slice Am m.ms.length cm)) 31 :: Blk g2 (n.cs (.slice Bp n.ps.length dp) (.slice Bm n.ms.length dm)) 31 :: [])) := ⟨H10.out⟩
              have s3 := HP.out.cell 3 (v := .int .i64 X2.space) rfl
              have t3 := HP.out.free 3
              have s5 := HP.out.cell 5 (v := .string X2.id) rfl
              have t5 := HP.out.free 5
              have s9 := HP.out.cell 9 (v := .int .i64 X2.t) rfl
              have t9 := HP.out.free 9
              have s10 := HP.out.cell 10 (v := .int .u64 X2.v) rfl
              have t10 := HP.out.free 10
              have s11 := HP.out.cell 11 (v := .int .u64 X2.s) rfl
              have t11 := HP.out.free 11
              go_upto_region 15 with fail
              refine start_ (n := 12) (S := fun w' => w'.cell? ⟨g1, 3, none⟩ = some (.int .i64 m.space) ∧ w'.cell? ⟨g1, 5, none⟩ = some (.string m.id) ∧ w'.cell? ⟨g1, 9, none⟩ = some (.int .i64 m.t) ∧ w'.cell? ⟨g1, 10, none⟩ = some (.int .u64 m.v) ∧ w'.cell? ⟨g1, 11, none⟩ = some (.int .u64 m.s)) (ds := [11]) #[false, false, false, false, false, false, false, false, false, false, false, false] (by kernel_rfl) rfl rfl ⟨((HP.out.drew.nth 2 rfl).cell 3 rfl), ((HP.out.drew.nth 2 rfl).cell 5 rfl), ((HP.out.drew.nth 2 rfl).cell 9 rfl), ((HP.out.drew.nth 2 rfl).cell 10 rfl), ((HP.out.drew.nth 2 rfl).cell 11 rfl)⟩ (fun hHeld => ?_)
              refine with_tabW Wf.tab15 Wf.bits15 (fun HT_ HW_ => ?_)
              refine pure_ (i := 0) (N := some 75) (v := ?_) (a' := ?_) #[true, false, false, false, false, false, false, false, false, false, false, false] rfl rfl (any_of HT_.out (by kernel_rfl)) (fun _ _ _ h => h) (Or.inl ⟨by rfl, ?_⟩) ?_ ?_
              rotate_left
              · intro w'
                go_simp
                with_reducible rfl
              rotate_left
              · simp only [Act.put, List.setIfInBounds_toArray, List.set_cons_zero, List.set_cons_succ, i64_w, i32_w]
                rfl
              refine pure_ (i := 2) (N := some 77) (v := ?_) (a' := ?_) #[true, false, true, false, false, false, false, false, false, false, false, false] rfl rfl (any_of HT_.out (by kernel_rfl)) (fun _ _ _ h => h) (Or.inl ⟨by rfl, ?_⟩) ?_ ?_
              rotate_left
              · intro w'
                go_simp
                with_reducible rfl
              rotate_left
              · simp only [Act.put, List.setIfInBounds_toArray, List.set_cons_zero, List.set_cons_succ, i64_w, i32_w]
                rfl
              refine pure_ (i := 4) (N := some 79) (v := ?_) (a' := ?_) #[true, false, true, false, true, false, false, false, false, false, false, false] rfl rfl (any_of HT_.out (by kernel_rfl)) (fun _ _ _ h => h) (Or.inl ⟨by rfl, ?_⟩) ?_ ?_
              rotate_left
              · intro w'
                go_simp
                with_reducible rfl
              rotate_left
              · simp only [Act.put, List.setIfInBounds_toArray, List.set_cons_zero, List.set_cons_succ, i64_w, i32_w]
                rfl
              refine take_ (i := 1) (N := some 76) (v := ?_) (a' := ?_) #[true, true, true, false, true, false, false, false, false, false, false, false] rfl rfl (take_ofW HT_.out HW_.out (by kernel_rfl)) (fun _ _ _ h => h) (Or.inl ⟨by rfl, ?_⟩) hHeld ?_ ?_
              rotate_left
              · rintro w' ⟨s0, s1, s2, s3, s4⟩
                go_simp
                with_reducible rfl
              rotate_left
              · simp only [Act.put, List.setIfInBounds_toArray, List.set_cons_zero, List.set_cons_succ, i64_w, i32_w]
                rfl
              refine pure_ (i := 6) (N := some 81) (v := ?_) (a' := ?_) #[true, true, true, false, true, false, true, false, false, false, false, false] rfl rfl (any_of HT_.out (by kernel_rfl)) (fun _ _ _ h => h) (Or.inl ⟨by rfl, ?_⟩) ?_ ?_
              rotate_left
              · intro w'
                go_simp
                with_reducible rfl
              rotate_left
              · simp only [Act.put, List.setIfInBounds_toArray, List.set_cons_zero, List.set_cons_succ, i64_w, i32_w]
                rfl
              refine take_ (i := 3) (N := some 78) (v := ?_) (a' := ?_) #[true, true, true, true, true, false, true, false, false, false, false, false] rfl rfl (take_ofW HT_.out HW_.out (by kernel_rfl)) (fun _ _ _ h => h) (Or.inl ⟨by rfl, ?_⟩) hHeld ?_ ?_
              rotate_left
              · rintro w' ⟨s0, s1, s2, s3, s4⟩
                go_simp
                with_reducible rfl
              rotate_left
              · simp only [Act.put, List.setIfInBounds_toArray, List.set_cons_zero, List.set_cons_succ, i64_w, i32_w]
                rfl
              refine take_ (i := 5) (N := some 80) (v := ?_) (a' := ?_) #[true, true, true, true, true, true, true, false, false, false, false, false] rfl rfl (take_ofW HT_.out HW_.out (by kernel_rfl)) (fun _ _ _ h => h) (Or.inl ⟨by rfl, ?_⟩) hHeld ?_ ?_
              rotate_left
              · rintro w' ⟨s0, s1, s2, s3, s4⟩
                go_simp
                with_reducible rfl
              rotate_left
              · simp only [Act.put, List.setIfInBounds_toArray, List.set_cons_zero, List.set_cons_succ, i64_w, i32_w]
                rfl
              refine one_ (i := 7) (N := none) #[true, true, true, true, true, true, true, true, false, false, false, false] rfl rfl (one_of HT_.out (by kernel_rfl)) (by decide) (fun K hK => ?_)
              refine skip_ (w1 := ?_) (by rfl) rfl ?_ ?_
              rotate_left
              · go_simp
                rfl
              have HP_0 : Aside0 (Sat W _ (Blk gx ({ X2 with space := m.space }.cs (.slice none 0 0) (.slice none 0 0)) 31 :: Blk gy (Y2.cs (.slice Bp n.ps.length dp) (.slice Bm n.ms.length dm)) 31 :: Blk g1 (m.cs (.slice Ap m.ps.length cp) (.slice Am m.ms.length cm)) 31 :: Blk g2 (n.cs (.slice Bp n.ps.length dp) (.slice Bm n.ms.length dm)) 31 :: [])) := ⟨((HP.out.nth 0 rfl).setBlk 3 (.int .i64 m.space))⟩
              refine hK.out _ _ ⟨((HP_0.out.drew.nth 2 rfl).cell 3 rfl), ((HP_0.out.drew.nth 2 rfl).cell 5 rfl), ((HP_0.out.drew.nth 2 rfl).cell 9 rfl), ((HP_0.out.drew.nth 2 rfl).cell 10 rfl), ((HP_0.out.drew.nth 2 rfl).cell 11 rfl)⟩ (fun hHeld => ?_)
              clear hK K
              refine pure_ (i := 8) (N := some 82) (v := ?_) (a' := ?_) #[true, true, true, true, true, true, true, true, true, false, false, false] rfl rfl (any_of HT_.out (by kernel_rfl)) (fun _ _ _ h => h) (Or.inl ⟨by rfl, ?_⟩) ?_ ?_
              rotate_left
              · intro w'
                go_simp
                with_reducible rfl
              rotate_left
              · simp only [Act.put, List.setIfInBounds_toArray, List.set_cons_zero, List.set_cons_succ, i64_w, i32_w]
                rfl
              refine one_ (i := 9) (N := none) #[true, true, true, true, true, true, true, true, true, true, false, false] rfl rfl (one_of HT_.out (by kernel_rfl)) (by decide) (fun K hK => ?_)
              refine skip_ (w1 := ?_) (by rfl) rfl ?_ ?_
              rotate_left
              · go_simp
                rfl
              have HP_1 : Aside0 (Sat W _ (Blk gx ({ X2 with space := m.space, id := m.id }.cs (.slice none 0 0) (.slice none 0 0)) 31 :: Blk gy (Y2.cs (.slice Bp n.ps.length dp) (.slice Bm n.ms.length dm)) 31 :: Blk g1 (m.cs (.slice Ap m.ps.length cp) (.slice Am m.ms.length cm)) 31 :: Blk g2 (n.cs (.slice Bp n.ps.length dp) (.slice Bm n.ms.length dm)) 31 :: [])) := ⟨((HP_0.out.nth 0 rfl).setBlk 5 (.string m.id))⟩
              refine hK.out _ _ ⟨((HP_1.out.drew.nth 2 rfl).cell 3 rfl), ((HP_1.out.drew.nth 2 rfl).cell 5 rfl), ((HP_1.out.drew.nth 2 rfl).cell 9 rfl), ((HP_1.out.drew.nth 2 rfl).cell 10 rfl), ((HP_1.out.drew.nth 2 rfl).cell 11 rfl)⟩ (fun hHeld => ?_)
              clear hK K
              refine pure_ (i := 10) (N := some 83) (v := ?_) (a' := ?_) #[true, true, true, true, true, true, true, true, true, true, true, false] rfl rfl (any_of HT_.out (by kernel_rfl)) (fun _ _ _ h => h) (Or.inl ⟨by rfl, ?_⟩) ?_ ?_
              rotate_left
              · intro w'
                go_simp
                with_reducible rfl
              rotate_left
              · simp only [Act.put, List.setIfInBounds_toArray, List.set_cons_zero, List.set_cons_succ, i64_w, i32_w]
                rfl
              refine last_ (i := 11) (N := none) #[true, true, true, true, true, true, true, true, true, true, true, true] rfl rfl (one_of HT_.out (by kernel_rfl)) (by decide) (fun K hK => ?_)
              refine skip_ (w1 := ?_) (by rfl) rfl ?_ ?_
              rotate_left
              · go_simp
                rfl
              have HP_2 : Aside0 (Sat W _ (Blk gx ({ X2 with space := m.space, id := m.id, t := m.t, v := m.v, s := m.s }.cs (.slice none 0 0) (.slice none 0 0)) 31 :: Blk gy (Y2.cs (.slice Bp n.ps.length dp) (.slice Bm n.ms.length dm)) 31 :: Blk g1 (m.cs (.slice Ap m.ps.length cp) (.slice Am m.ms.length cm)) 31 :: Blk g2 (n.cs (.slice Bp n.ps.length dp) (.slice Bm n.ms.length dm)) 31 :: [])) := ⟨((((HP_1.out.nth 0 rfl).setBlk 9 (.int .i64 m.t)).setBlk 10 (.int .u64 m.v)).setBlk 11 (.int .u64 m.s))⟩
              refine hK.out _ _ ?_
              clear hK K
              refine done_ (done_of HT_.out (by kernel_rfl)) ?_
              go_upto_region 16 with fail
              have HQ0 := Aside0.mk HP_2.out.drew
              obtain ⟨wq, hwq⟩ : ∃ wq, (((((wc.setCell ⟨gx, 3, none⟩ (.int .i64 m.space)).setCell ⟨gx, 5, none⟩ (.string m.id)).setCell ⟨gx, 9, none⟩ (.int .i64 m.t)).setCell ⟨gx, 10, none⟩ (.int .u64 m.v)).setCell ⟨gx, 11, none⟩ (.int .u64 m.s)).drew = wq := ⟨_, rfl⟩
              rw [hwq] at HQ0 ⊢
              have HQ : Aside0 (Sat W wq (Blk gx ({ X2 with space := m.space, id := m.id, t := m.t, v := m.v, s := m.s }.cs (.slice none 0 0) (.slice none 0 0)) 31 :: Blk gy (Y2.cs (.slice Bp n.ps.length dp) (.slice Bm n.ms.length dm)) 31 :: Blk g1 (m.cs (.slice Ap m.ps.length cp) (.slice Am m.ms.length cm)) 31 :: Blk g2 (n.cs (.slice Bp n.ps.length dp) (.slice Bm n.ms.length dm)) 31 :: [])) := HQ0
              clear hwq hHeld HQ0 s3 t3 s5 t5 s9 t9 s10 t10 s11 t11
              have s3 := (HQ.out.nth 1 rfl).cell 3 (v := .int .i64 Y2.space) rfl
              have t3 := (HQ.out.nth 1 rfl).free 3
              have s5 := (HQ.out.nth 1 rfl).cell 5 (v := .string Y2.id) rfl
              have t5 := (HQ.out.nth 1 rfl).free 5
              have s9 := (HQ.out.nth 1 rfl).cell 9 (v := .int .i64 Y2.t) rfl
              have t9 := (HQ.out.nth 1 rfl).free 9
              have s10 := (HQ.out.nth 1 rfl).cell 10 (v := .int .u64 Y2.v) rfl
              have t10 := (HQ.out.nth 1 rfl).free 10
              have s11 := (HQ.out.nth 1 rfl).cell 11 (v := .int .u64 Y2.s) rfl
              have t11 := (HQ.out.nth 1 rfl).free 11
              refine start_ (n := 12) (S := fun w' => w'.cell? ⟨g1, 3, none⟩ = some (.int .i64 m.space) ∧ w'.cell? ⟨g1, 5, none⟩ = some (.string m.id) ∧ w'.cell? ⟨g1, 9, none⟩ = some (.int .i64 m.t) ∧ w'.cell? ⟨g1, 10, none⟩ = some (.int .u64 m.v) ∧ w'.cell? ⟨g1, 11, none⟩ = some (.int .u64 m.s)) (ds := [11]) #[false, false, false, false, false, false, false, false, false, false, false, false] (by kernel_rfl) rfl rfl ⟨((HQ.out.drew.nth 2 rfl).cell 3 rfl), ((HQ.out.drew.nth 2 rfl).cell 5 rfl), ((HQ.out.drew.nth 2 rfl).cell 9 rfl), ((HQ.out.drew.nth 2 rfl).cell 10 rfl), ((HQ.out.drew.nth 2 rfl).cell 11 rfl)⟩ (fun hHeld => ?_)
              refine with_tabW Wf.tab16 Wf.bits16 (fun HT_ HW_ => ?_)
              refine pure_ (i := 0) (N := some 84) (v := ?_) (a' := ?_) #[true, false, false, false, false, false, false, false, false, false, false, false] rfl rfl (any_of HT_.out (by kernel_rfl)) (fun _ _ _ h => h) (Or.inl ⟨by rfl, ?_⟩) ?_ ?_
              rotate_left
              · intro w'
                go_simp
                with_reducible rfl
              rotate_left
              · simp only [Act.put, List.setIfInBounds_toArray, List.set_cons_zero, List.set_cons_succ, i64_w, i32_w]
                rfl
              refine pure_ (i := 2) (N := some 86) (v := ?_) (a' := ?_) #[true, false, true, false, false, false, false, false, false, false, false, false] rfl rfl (any_of HT_.out (by kernel_rfl)) (fun _ _ _ h => h) (Or.inl ⟨by rfl, ?_⟩) ?_ ?_
              rotate_left
              · intro w'
                go_simp
                with_reducible rfl
              rotate_left
              · simp only [Act.put, List.setIfInBounds_toArray, List.set_cons_zero, List.set_cons_succ, i64_w, i32_w]
                rfl
              refine pure_ (i := 4) (N := some 88) (v := ?_) (a' := ?_) #[true, false, true, false, true, false, false, false, false, false, false, false] rfl rfl (any_of HT_.out (by kernel_rfl)) (fun _ _ _ h => h) (Or.inl ⟨by rfl, ?_⟩) ?_ ?_
              rotate_left
              · intro w'
                go_simp
                with_reducible rfl
              rotate_left
              · simp only [Act.put, List.setIfInBounds_toArray, List.set_cons_zero, List.set_cons_succ, i64_w, i32_w]
                rfl
              refine take_ (i := 1) (N := some 85) (v := ?_) (a' := ?_) #[true, true, true, false, true, false, false, false, false, false, false, false] rfl rfl (take_ofW HT_.out HW_.out (by kernel_rfl)) (fun _ _ _ h => h) (Or.inl ⟨by rfl, ?_⟩) hHeld ?_ ?_
              rotate_left
              · rintro w' ⟨s0, s1, s2, s3, s4⟩
                go_simp
                with_reducible rfl
              rotate_left
              · simp only [Act.put, List.setIfInBounds_toArray, List.set_cons_zero, List.set_cons_succ, i64_w, i32_w]
                rfl
              refine pure_ (i := 6) (N := some 90) (v := ?_) (a' := ?_) #[true, true, true, false, true, false, true, false, false, false, false, false] rfl rfl (any_of HT_.out (by kernel_rfl)) (fun _ _ _ h => h) (Or.inl ⟨by rfl, ?_⟩) ?_ ?_
              rotate_left
              · intro w'
                go_simp
                with_reducible rfl
              rotate_left
              · simp only [Act.put, List.setIfInBounds_toArray, List.set_cons_zero, List.set_cons_succ, i64_w, i32_w]
                rfl
              refine take_ (i := 3) (N := some 87) (v := ?_) (a' := ?_) #[true, true, true, true, true, false, true, false, false, false, false, false] rfl rfl (take_ofW HT_.out HW_.out (by kernel_rfl)) (fun _ _ _ h => h) (Or.inl ⟨by rfl, ?_⟩) hHeld ?_ ?_
              rotate_left
              · rintro w' ⟨s0, s1, s2, s3, s4⟩
                go_simp
                with_reducible rfl
              rotate_left
              · simp only [Act.put, List.setIfInBounds_toArray, List.set_cons_zero, List.set_cons_succ, i64_w, i32_w]
                rfl
              refine take_ (i := 5) (N := some 89) (v := ?_) (a' := ?_) #[true, true, true, true, true, true, true, false, false, false, false, false] rfl rfl (take_ofW HT_.out HW_.out (by kernel_rfl)) (fun _ _ _ h => h) (Or.inl ⟨by rfl, ?_⟩) hHeld ?_ ?_
              rotate_left
              · rintro w' ⟨s0, s1, s2, s3, s4⟩
                go_simp
                with_reducible rfl
              rotate_left
              · simp only [Act.put, List.setIfInBounds_toArray, List.set_cons_zero, List.set_cons_succ, i64_w, i32_w]
                rfl
              refine one_ (i := 7) (N := none) #[true, true, true, true, true, true, true, true, false, false, false, false] rfl rfl (one_of HT_.out (by kernel_rfl)) (by decide) (fun K hK => ?_)
              refine skip_ (w1 := ?_) (by rfl) rfl ?_ ?_
              rotate_left
              · go_simp
                rfl
              have HQ_0 : Aside0 (Sat W _ (Blk gx ({ X2 with space := m.space, id := m.id, t := m.t, v := m.v, s := m.s }.cs (.slice none 0 0) (.slice none 0 0)) 31 :: Blk gy ({ Y2 with space := m.space }.cs (.slice Bp n.ps.length dp) (.slice Bm n.ms.length dm)) 31 :: Blk g1 (m.cs (.slice Ap m.ps.length cp) (.slice Am m.ms.length cm)) 31 :: Blk g2 (n.cs (.slice Bp n.ps.length dp) (.slice Bm n.ms.length dm)) 31 :: [])) := ⟨(((HQ.out.nth 1 rfl).setBlk 3 (.int .i64 m.space)).nth 1 rfl)⟩
              refine hK.out _ _ ⟨((HQ_0.out.drew.nth 2 rfl).cell 3 rfl), ((HQ_0.out.drew.nth 2 rfl).cell 5 rfl), ((HQ_0.out.drew.nth 2 rfl).cell 9 rfl), ((HQ_0.out.drew.nth 2 rfl).cell 10 rfl), ((HQ_0.out.drew.nth 2 rfl).cell 11 rfl)⟩ (fun hHeld => ?_)
              clear hK K
              refine pure_ (i := 8) (N := some 91) (v := ?_) (a' := ?_) #[true, true, true, true, true, true, true, true, true, false, false, false] rfl rfl (any_of HT_.out (by kernel_rfl)) (fun _ _ _ h => h) (Or.inl ⟨by rfl, ?_⟩) ?_ ?_
              rotate_left
              · intro w'
                go_simp
                with_reducible rfl
              rotate_left
              · simp only [Act.put, List.setIfInBounds_toArray, List.set_cons_zero, List.set_cons_succ, i64_w, i32_w]
                rfl
              refine one_ (i := 9) (N := none) #[true, true, true, true, true, true, true, true, true, true, false, false] rfl rfl (one_of HT_.out (by kernel_rfl)) (by decide) (fun K hK => ?_)
              refine skip_ (w1 := ?_) (by rfl) rfl ?_ ?_
              rotate_left
              · go_simp
                rfl
              have HQ_1 : Aside0 (Sat W _ (Blk gx ({ X2 with space := m.space, id := m.id, t := m.t, v := m.v, s := m.s }.cs (.slice none 0 0) (.slice none 0 0)) 31 :: Blk gy ({ Y2 with space := m.space, id := m.id }.cs (.slice Bp n.ps.length dp) (.slice Bm n.ms.length dm)) 31 :: Blk g1 (m.cs (.slice Ap m.ps.length cp) (.slice Am m.ms.length cm)) 31 :: Blk g2 (n.cs (.slice Bp n.ps.length dp) (.slice Bm n.ms.length dm)) 31 :: [])) := ⟨(((HQ_0.out.nth 1 rfl).setBlk 5 (.string m.id)).nth 1 rfl)⟩
              refine hK.out _ _ ⟨((HQ_1.out.drew.nth 2 rfl).cell 3 rfl), ((HQ_1.out.drew.nth 2 rfl).cell 5 rfl), ((HQ_1.out.drew.nth 2 rfl).cell 9 rfl), ((HQ_1.out.drew.nth 2 rfl).cell 10 rfl), ((HQ_1.out.drew.nth 2 rfl).cell 11 rfl)⟩ (fun hHeld => ?_)
              clear hK K
              refine pure_ (i := 10) (N := some 92) (v := ?_) (a' := ?_) #[true, true, true, true, true, true, true, true, true, true, true, false] rfl rfl (any_of HT_.out (by kernel_rfl)) (fun _ _ _ h => h) (Or.inl ⟨by rfl, ?_⟩) ?_ ?_
              rotate_left
              · intro w'
                go_simp
                with_reducible rfl
              rotate_left
              · simp only [Act.put, List.setIfInBounds_toArray, List.set_cons_zero, List.set_cons_succ, i64_w, i32_w]
                rfl
              refine last_ (i := 11) (N := none) #[true, true, true, true, true, true, true, true, true, true, true, true] rfl rfl (one_of HT_.out (by kernel_rfl)) (by decide) (fun K hK => ?_)
              refine skip_ (w1 := ?_) (by rfl) rfl ?_ ?_
              rotate_left
              · go_simp
                rfl
              have HQ_2 : Aside0 (Sat W _ (Blk gx ({ X2 with space := m.space, id := m.id, t := m.t, v := m.v, s := m.s }.cs (.slice none 0 0) (.slice none 0 0)) 31 :: Blk gy ({ Y2 with space := m.space, id := m.id, t := m.t, v := m.v, s := m.s }.cs (.slice Bp n.ps.length dp) (.slice Bm n.ms.length dm)) 31 :: Blk g1 (m.cs (.slice Ap m.ps.length cp) (.slice Am m.ms.length cm)) 31 :: Blk g2 (n.cs (.slice Bp n.ps.length dp) (.slice Bm n.ms.length dm)) 31 :: [])) := ⟨(((((HQ_1.out.nth 1 rfl).setBlk 9 (.int .i64 m.t)).setBlk 10 (.int .u64 m.v)).setBlk 11 (.int .u64 m.s)).nth 1 rfl)⟩
              refine hK.out _ _ ?_
              clear hK K
              refine done_ (done_of HT_.out (by kernel_rfl)) ?_
              go_wp2
              go_meet
              rw [EX.out, EY.out]
              exact ⟨HQ_2.out.drew⟩
            · have d1 : (m.kind == 1) = false := by rw [beq_eq_false_iff_ne]; exact hk
              have EX := Aside0.mk (show xH m X2 = X2 from if_neg hk)
              have EY := Aside0.mk (show xH m Y2 = Y2 from if_neg hk)
              clear hk
              go_wp2
              go_meet
              rw [EX.out, EY.out]
              exact H10
          case rest =>
            have H10o := H10
            clear H10
            have H10 := hcut
            obtain ⟨X3, hX3⟩ : ∃ X, xH m X2 = X := ⟨_, rfl⟩
            obtain ⟨Y3, hY3⟩ : ∃ X, xH m Y2 = X := ⟨_, rfl⟩
            rw [hX3, hY3] at H10
            subst hX1 hY1 hX2 hY2
            have hxl := xy_lists m (x0 m)
            have hyl := xy_lists m (y0 m n)
            have hxv := xy_okv m (x0 m) HI.out.okv ⟨⟨by simp [x0], by simp [x0]⟩, ⟨by simp [x0], by simp [x0]⟩⟩
            have hyv := xy_okv m (y0 m n) HI.out.okv HJ.out.okv
            have HS : Aside0 (m.kind = 2 ∨ m.kind = 7 ∨ m.kind = 1 → encR X3 = encR Y3) := ⟨fun hk => by rw [← hX3, ← hY3]; exact enc_same m n hk⟩
            rw [hX3] at hxl hxv
            rw [hY3] at hyl hyv
            clear hcut hX3 hY3 H10o
            obtain ⟨hx1, hx2⟩ := hxl
            obtain ⟨hy1', hy2'⟩ := hyl
            have hx1' : X3.ps = [] := hx1
            have hx2' : X3.ms = [] := hx2
            have hy3' : Y3.ps = n.ps := hy1'
            have hy4' : Y3.ms = n.ms := hy2'
            have H11 : Aside0 (Sat W wc (Blk gx (X3.cs (.slice none X3.ps.length 0) (.slice none X3.ms.length 0)) 31 :: Blk gy (Y3.cs (.slice Bp Y3.ps.length dp) (.slice Bm Y3.ms.length dm)) 31 :: Blk g1 (m.cs (.slice Ap m.ps.length cp) (.slice Am m.ms.length cm)) 31 :: Blk g2 (n.cs (.slice Bp n.ps.length dp) (.slice Bm n.ms.length dm)) 31 :: [])) := ⟨by rw [hx1', hx2', hy3', hy4']; exact H10.out⟩
            have HIX : Aside0 (MIn W X3 none 0 none 0) := ⟨⟨by rw [hx1']; simp, by rw [hx2']; simp, hxv, by rw [hx1']; simp, by rw [hx2']; simp, by rw [hx1']; simp, by rw [hx2']; simp, by rw [hx1']; exact Kd.C_nil _ _, by rw [hx2']; exact Kd.C_nil _ _⟩⟩
            have HIY : Aside0 (MIn W Y3 Bp dp Bm dm) := ⟨⟨by rw [hy3']; exact HJ.out.okp, by rw [hy4']; exact HJ.out.okm, hyv, by rw [hy3']; exact HJ.out.lp, by rw [hy4']; exact HJ.out.lm, by rw [hy3']; exact HJ.out.cp, by rw [hy4']; exact HJ.out.cm, by rw [hy3']; exact HJ.out.hp, by rw [hy4']; exact HJ.out.hm⟩⟩
            clear hx1 hx2 hy1' hy2' hx1' hx2' hy3' hy4' hxv hyv H10 hz1 hz2 hz3 hy1 hy2 hy3
            obtain ⟨bx, ex, hex⟩ : ∃ bs er, encR X3 = (bs, er) := ⟨_, _, rfl⟩
            obtain ⟨bY, ey, hey⟩ : ∃ bs er, encR Y3 = (bs, er) := ⟨_, _, rfl⟩
            have HEX := Aside0.mk hex
            have HEY := Aside0.mk hey
            have HS2 : Aside0 (m.kind = 2 ∨ m.kind = 7 ∨ m.kind = 1 → bx = bY ∧ ex = ey) := ⟨fun hk => by have h := HS.out hk; rw [hex, hey] at h; exact ⟨congrArg Prod.fst h, congrArg Prod.snd h⟩⟩
            clear hex hey HS
            have HBX := Aside0.mk H11.out.blk
            go_upto_region 18 with (first | ((with_reducible refine gate_ (.load 31 (.tmp 5)) rfl ?_); go_loud (refine wpList_load_row rfl 31 (.tmp 5) rfl gx rfl 31 _ (0, 0) _ HBX.out Try.underlying31 rfl (by kernel_rfl) ?_)) | (go_at_call 9; go_loud ((with_reducible refine (Go.Proofs.Ytpjljhiohimgcaa.WwW.Encode_calls _ X3 none 0 none 0 (HIX.out.below H11.out.below)).mono ?_); intro e wa ho; unfold EncOut at ho; rw [HEX.out] at ho; obtain ⟨va, rfl, hs⟩ := ho; obtain ⟨Aa, ca, rfl, _, _⟩ := hs.rowSlice; have Ha := Aside0.mk (H11.out.joinRow hs); have HBY := Aside0.mk (Ha.out.nth 2 rfl).blk; clear hs)))
            clear HBX
            go_upto_region 19 with (first | ((with_reducible refine gate_ (.load 31 (.tmp 6)) rfl ?_); go_loud (refine wpList_load_row rfl 31 (.tmp 6) rfl gy rfl 31 _ (0, 0) _ HBY.out Try.underlying31 rfl (by kernel_rfl) ?_)) | (go_at_call 9; go_loud ((with_reducible refine (Go.Proofs.Ytpjljhiohimgcaa.WwW.Encode_calls _ Y3 Bp dp Bm dm (HIY.out.below Ha.out.below)).mono ?_); intro e wb ho; unfold EncOut at ho; rw [HEY.out] at ho; obtain ⟨vb, rfl, hs⟩ := ho; obtain ⟨Ab, cb, rfl, _, _⟩ := hs.rowSlice; have Hb := Aside0.mk (Ha.out.joinRow hs); have HBZ := Aside0.mk (Hb.out.nth 2 rfl).blk; clear hs)))
            clear HBY Ha H11
            go_upto_region 20 with (first | ((with_reducible refine gate_ (.load 31 (.tmp 5)) rfl ?_); go_loud (refine wpList_load_row rfl 31 (.tmp 5) rfl gx rfl 31 _ (0, 0) _ HBZ.out Try.underlying31 rfl (by kernel_rfl) ?_)) | (go_at_call 11; go_loud ((with_reducible refine (theirs_calls W _ _ X3 none none X3.ps.length 0 X3.ms.length 0 Hb.out).mono ?_); rintro e wt ⟨rfl, hs⟩; have Ht := Aside0.mk hs; clear hs)) | (go_at_call 10; go_loud ((with_reducible refine (Go.Proofs.Ytpjljhiohimgcaa.RoW.Encode_calls _ X3 none 0 none 0 (HIX.out.below Ht.out.below)).mono ?_); intro e wd ho; unfold EncOut at ho; rw [HEX.out] at ho; obtain ⟨vc, rfl, hs⟩ := ho; obtain ⟨Ac, cc, rfl, _, _⟩ := hs.rowSlice; have Hc := Aside0.mk (Ht.out.joinRow hs); clear hs)))
            clear HBZ Hb Ht
            have kc := (show Sat W wd (Row (Kd.int .u8) 5 (.slice Ac bx.length cc) bx :: _) from Hc.out).toString (P := Try.prog) (src := 33) (dst := 9) Try.underlying33 Try.underlying5 Try.underlying9
            have kb := (show Sat W wd (Row (Kd.int .u8) 5 (.slice Ab bY.length cb) bY :: _) from Hc.out.nth 1 rfl).toString (P := Try.prog) (src := 33) (dst := 9) Try.underlying33 Try.underlying5 Try.underlying9
            have ka := (show Sat W wd (Row (Kd.int .u8) 5 (.slice Aa bx.length ca) bx :: _) from Hc.out.nth 2 rfl).toString (P := Try.prog) (src := 33) (dst := 9) Try.underlying33 Try.underlying5 Try.underlying9
            have k0 := (show Sat W wd (Blk g1 (m.cs (.slice Ap m.ps.length cp) (.slice Am m.ms.length cm)) 31 :: _) from Hc.out.nth 5 rfl).cell 0 (v := .int .i64 m.kind) rfl
            generalize strOfNums bx = sx at kc ka
            by_cases hk : m.kind = 2 ∨ m.kind = 7 ∨ m.kind = 1
            · obtain ⟨e1, e2⟩ := HS2.out hk
              clear HS2
              subst e2
              have kb' : (convert 33 9 (.slice Ab bY.length cb)).run Try.prog wd = .ok (.string sx) wd := by
                have h1 := (show Sat W wd (Row (Kd.int .u8) 5 (.slice Ab bY.length cb) bY :: _) from Hc.out.nth 1 rfl).toString (P := Try.prog) (src := 33) (dst := 9) Try.underlying33 Try.underlying5 Try.underlying9
                have h2 := (show Sat W wd (Row (Kd.int .u8) 5 (.slice Aa bx.length ca) bx :: _) from Hc.out.nth 2 rfl).toString (P := Try.prog) (src := 33) (dst := 9) Try.underlying33 Try.underlying5 Try.underlying9
                rw [h2] at ka
                rw [h1, ← e1]
                simp only [Result.ok.injEq, Value.string.injEq, and_true] at ka
                rw [ka]
              clear kb e1
              have HKK := Aside0.mk hk
              have d2 : (m.kind != 2) = true ∨ (m.kind != 2) = false := by cases (m.kind != 2) <;> simp
              have d7 : (m.kind != 7) = true ∨ (m.kind != 7) = false := by cases (m.kind != 7) <;> simp
              have d1 : (m.kind != 1) = true ∨ (m.kind != 1) = false := by cases (m.kind != 1) <;> simp
              clear hk
              rcases d2 with d2 | d2 <;> rcases d7 with d7 | d7 <;> rcases d1 with d1 | d1
              all_goals
                go_wp2
                go_ret
                exact ⟨rfl, Hc.out.below⟩
            · have d2 : (m.kind != 2) = true := by rw [bne_iff_ne]; exact fun h => hk (.inl h)
              have d7 : (m.kind != 7) = true := by rw [bne_iff_ne]; exact fun h => hk (.inr (.inl h))
              have d1 : (m.kind != 1) = true := by rw [bne_iff_ne]; exact fun h => hk (.inr (.inr h))
              clear hk
              go_wp2
              go_ret
              exact ⟨rfl, Hc.out.below⟩
end Go.Proofs.Ytpjljhiohimgcaa.LwWireFields
namespace Go.Proofs.Ytpjljhiohimgcaa.wireFields
open Go.ChangeShapes Go.WideShapes Go.ChangeAt Go.RowKit
open Go.ChangeMaps (open_string shut_string)
set_option linter.unusedVariables false
theorem own : ownKnob Try.prog.godebug = none := by kernel_rfl
theorem laidOut : laidOutB Try.prog = true := by kernel_rfl
set_option maxRecDepth 100000 in
theorem lifted (os : Os) (started : os.Started) (H : Type) (enc : TypeId × Value → H) :
    ReturnsInHanded {} Try.checked os 3 .any (Rows.wireFieldsSpec.pre6 enc Try.prog Try.f3 Rows.wireFieldsRow.domain false) (Rows.wireFieldsSpec.post enc Try.prog Try.f3 false true false false) := by
  refine returnsInHanded_of_change_sized (C := Try.checked) own started (by kernel_rfl) Try.func3
    (ChangeSpec.witness6 (enc := enc) (C := Try.checked) false ⟨#[], #[.agg #[.int .i64 0, .int .i64 0, .int .i64 0, .int .i64 0, .int .i64 0, .string ByteArray.empty, .int .i64 0, .int .i64 0, .int .i64 0, .int .i64 0, .int .u64 0, .int .u64 0, .int .i64 0, .bool false, .slice none 0 0, .slice none 0 0], .agg #[.int .i64 0, .int .i64 0, .int .i64 0, .int .i64 0, .int .i64 0, .string ByteArray.empty, .int .i64 0, .int .i64 0, .int .i64 0, .int .i64 0, .int .u64 0, .int .u64 0, .int .i64 0, .bool false, .slice none 0 0, .slice none 0 0]], []⟩ 8 (by kernel_rfl) (by kernel_rfl) (by kernel_rfl) (by kernel_rfl)) ?_
  intro W base args ds gs before hval0 hW hcnd hsz0 _
  have hsz : (DataW.weightsEach Try.prog (Try.f3.params.toList ++ Rows.wireFieldsSpec.plain.varTypes Try.prog) (ds ++ gs)).all (· ≤ reachBytes) = true := hsz0
  have hval : ∀ (j : Nat) t v, Try.f3.params[j]? = some t → args[j]? = some v → Value.okWide Try.prog W .any base t v := hval0
  have hW' := hW
  obtain ⟨p, q, hA0, hV, rfl, hfz, hnd⟩ := hW
  have hA : DataW.TrodAll enc Try.prog W 0 (fun _ => true) true Try.f3.params.toList args.toList ds p := hA0
  rw [Try.params3] at hA hval hsz
  obtain ⟨v0, vs0, d0, ds0, p0, q0, hargs, rfl, rfl, h0, r0⟩ := trodAll_cons hA
  obtain ⟨v1, vs1, d1, ds1, p1, q1, rfl, rfl, rfl, h1, r1⟩ := trodAll_cons r0
  obtain ⟨rfl, rfl, rfl⟩ := trodAll_nil r1
  obtain rfl : args = #[v0, v1] := by cases args; simp_all
  obtain ⟨rfl, rfl⟩ := trodVars_none hV
  obtain ⟨cs0, rfl, sz0⟩ := okWide_struct Try.underlying31 (hval 0 31 v0 rfl rfl)
  have k0 := h0
  have lt0 : ∀ x ∈ p0, x.block < W.heap.size := by obtain ⟨m, hm⟩ := k0; exact DataW.trod_lt m _ _ _ hm
  obtain ⟨x0, A0, c0, B0, d0c, rfl, z0, w0⟩ := MsO.open_msg_arg hsz (j := 0) rfl rfl h0
  obtain ⟨cs1, rfl, sz1⟩ := okWide_struct Try.underlying31 (hval 1 31 v1 rfl rfl)
  have k1 := h1
  have lt1 : ∀ x ∈ p1, x.block < W.heap.size := by obtain ⟨m, hm⟩ := k1; exact DataW.trod_lt m _ _ _ hm
  obtain ⟨x1, A1, c1, B1, d1c, rfl, z1, w1⟩ := MsO.open_msg_arg hsz (j := 1) rfl rfl h1
  clear hA0 hval0 hsz0 hsz
  refine (LwWireFields.WireFields_calls W x0 A0 c0 B0 d0c z0 w0 x1 A1 c1 B1 d1c z1 w1).mono fun e W' ⟨he, bel⟩ => ?_
  subst he
  exact ⟨_, rfl, _, _, _, [], _, [], hW', trodAll_mk1 (shut_bool Try.underlying4 _), (trodAll_cons_mk (Below.trod laidOut (by kernel_rfl) (of_decide_eq_true (by kernel_rfl)) k0 bel lt0) (trodAll_cons_mk (Below.trod laidOut (by kernel_rfl) (of_decide_eq_true (by kernel_rfl)) k1 bel lt1) trodAll_mk0)), rfl, bel.frame _, fun h => by cases h⟩
theorem over : Rows.wireFieldsRow.holds Try.pinned (OpenSpec.ofChange Rows.wireFieldsSpec) :=
  OpenClaim.holds_of_wide 3 Try.f3 rfl rfl rfl rfl rfl rfl rfl ⟨rfl, rfl, rfl, rfl, rfl⟩ rfl rfl rfl rfl rfl (by kernel_rfl) Try.func3 (by kernel_rfl)
    (of_decide_eq_true (by kernel_rfl)) (by unfold Func.isWrapper; first | (rw [if_pos (by decide +kernel)]; kernel_rfl) | (rw [if_neg (by decide +kernel)]; exact ⟨rfl, rfl⟩))
    (fun os started H enc _ => lifted os started H enc)
theorem proved : Rows.WireFieldsSaid := over
#print axioms proved
end Go.Proofs.Ytpjljhiohimgcaa.wireFields
namespace Go.Proofs.Ytpjljhiohimgcaa
/-- The row, under a short name, for the claim. -/
theorem wireFields_holds : Rows.WireFieldsSaid := wireFields.proved
end Go.Proofs.Ytpjljhiohimgcaa
