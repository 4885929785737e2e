/- The law WireEncodes: its walk.
   The row of the law WireEncodes, out of the contract of its call. No condition beside the row's own. Written by a program of this session (row.py). -/
import Derived.Test.YtpjljhiohimgcaaZWireEncodes10
import Derived.Test.YtpjljhiohimgcaaZWireEncodes14
import Derived.Test.YtpjljhiohimgcaaZWireEncodes15
import Derived.Test.YtpjljhiohimgcaaZWireEncodes17
import Derived.Test.YtpjljhiohimgcaaRows
import Derived.WalkKit
import Derived.ProofKit
import Derived.OpenShut
import Derived.ShutString
import Derived.ChangeOld
import Derived.Below
import Derived.SizedLaws
namespace Go.Proofs.Ytpjljhiohimgcaa.LwWireEncodes
open Go.RowKit Go.Proofs.YtpjljhiohimgcaaW.PrintWords Go.Proofs.YtpjljhiohimgcaaW.PrintLast Go.Proofs.YtpjljhiohimgcaaW.PrintMore Go.Proofs.Ytpjljhiohimgcaa.QB Go.Proofs.Ytpjljhiohimgcaa.Sl Go.Proofs.Ytpjljhiohimgcaa.WpP Go.Proofs.Ytpjljhiohimgcaa.MsO Go.Proofs.Ytpjljhiohimgcaa.SaW
set_option linter.unusedVariables false
set_option linter.unusedSimpArgs false
def Wl.T10 : Bool × List (List Nat × List Nat) := (true, [([], []), ([], []), ([0, 1], [0, 1]), ([2], [2]), ([3], [3]), ([4, 3], [3, 4]), ([3], [3]), ([6, 3], [3, 6]), ([5, 7, 3], [3, 5, 7]), ([3, 8], [3, 8]), ([9, 3], [9]), ([10], [10]), ([10], [10]), ([12, 10, 10], [10, 12]), ([11, 13, 13, 10], [10, 11, 13]), ([10, 14], [10, 14]), ([15, 14, 0, 1, 2, 3, 4, 5, 6, 7, 8, 9, 10, 11, 12, 13, 14, 15], [15])])
def Wl.B10 : List Nat := [0, 0, 3, 7, 15, 31, 15, 79, 255, 511, 1023, 2047, 2047, 6143, 16383, 32767, 65535]
theorem Wl.tab10 : rtab .any (opsOf Try.f4 10) = Wl.T10 := by kernel_rfl
theorem Wl.bits10 : waitsOk Wl.T10.2 Wl.B10 = true := by kernel_rfl
set_option maxHeartbeats 8000000 in
set_option maxRecDepth 100000 in
theorem WireEncodes_calls (W : World) (m : Msg) (Ap : Option Addr) (cp : Nat) (Am : Option Addr) (cm : Nat) (hI0 : MIn0 W m Ap cp Am cm) (hz : SzMsg m) :
    Calls Try.prog 4 #[.agg (m.cs (.slice Ap m.ps.length cp) (.slice Am m.ms.length cm))] W fun e w' => e = .returned (.bool true) ∧ Below W.heap.size W w' := by
  obtain ⟨r, hr, hr2⟩ := heavy_ok m hz
  have HR := Aside0.mk hr
  have H0 := Aside0.mk hI0
  have H1 : Aside0 (Sat W (W.alloc (.cells (m.cs (.slice Ap m.ps.length cp) (.slice Am m.ms.length cm)) 31)) (Blk W.heap.size (m.cs (.slice Ap m.ps.length cp) (.slice Am m.ms.length cm)) 31 :: [])) := ⟨(Sat.start W).newBlk _ _⟩
  clear hr hI0 hz
  go_enter Try.func4, Try.ntmps4
  go_upto_region 1 with fail
  generalize W.alloc (.cells (m.cs (.slice Ap m.ps.length cp) (.slice Am m.ms.length cm)) 31) = w1 at H1 ⊢
  generalize W.heap.size = g1 at H1 ⊢
  have HB1 := Aside0.mk H1.out.blk
  cases r with
  | true =>
    go_wp2_with (first | ((with_reducible refine gate_ (.load 31 (.tmp 1)) rfl ?_); go_loud (refine wpList_load_row rfl 31 (.tmp 1) rfl g1 rfl 31 _ (0, 0) _ HB1.out Try.underlying31 rfl (by kernel_rfl) ?_)) | (go_at_call 8; go_loud ((with_reducible refine (heavy_calls W _ _ m Ap cp Am cm _ H0.out HR.out H1.out).mono ?_); rintro e w2 ⟨rfl, hs⟩; have H2 := Aside0.mk hs; clear hs)))
    go_ret
    exact ⟨rfl, H2.out.below⟩
  | false =>
    obtain ⟨hz1, hz2, hz3⟩ := hr2 rfl
    have HI : Aside0 (MIn W m Ap cp Am cm) := ⟨H0.out.small (by omega) (by omega)⟩
    go_upto_region 3 with (first | ((with_reducible refine gate_ (.load 31 (.tmp 1)) rfl ?_); go_loud (refine wpList_load_row rfl 31 (.tmp 1) rfl g1 rfl 31 _ (0, 0) _ HB1.out Try.underlying31 rfl (by kernel_rfl) ?_)) | (go_at_call 8; go_loud ((with_reducible refine (heavy_calls W _ _ m Ap cp Am cm _ H0.out HR.out H1.out).mono ?_); rintro e w2 ⟨rfl, hs⟩; have H2 := Aside0.mk hs; clear hs)))
    have HB2 := Aside0.mk H2.out.blk
    have x14 := H2.out.cell 14 (v := .slice Ap m.ps.length cp) rfl
    clear HB1 H1
    have HZ := Aside0.mk (H2.out.newBlk zM 31)
    go_upto_region 4 with (first | ((with_reducible refine gate_ (.load 31 (.tmp 1)) rfl ?_); go_loud (refine wpList_load_row rfl 31 (.tmp 1) rfl g1 rfl 31 _ (0, 0) _ HB2.out Try.underlying31 rfl (by kernel_rfl) ?_)) | ((with_reducible refine gate_store (p := 3) rfl ?_); go_loud (refine wpList_store_row rfl 31 (.tmp 3) (.tmp 10) rfl w2.heap.size (m.cs (.slice Ap m.ps.length cp) (.slice Am m.ms.length cm)) rfl rfl 31 _ HZ.out.blk (by kernel_rfl) rfl (by simp [Msg.cs, Value.oneCell']) ?_; have H3 := Aside0.mk (HZ.out.setRow (m.cs (.slice Ap m.ps.length cp) (.slice Am m.ms.length cm))))))
    obtain ⟨w3, hw3⟩ : ∃ w3, (w2.alloc (.cells zM 31)).setRow w2.heap.size (m.cs (.slice Ap m.ps.length cp) (.slice Am m.ms.length cm)) = w3 := ⟨_, rfl⟩
    show Code.wp _ _ _ _ ((w2.alloc (.cells zM 31)).setRow w2.heap.size (m.cs (.slice Ap m.ps.length cp) (.slice Am m.ms.length cm)))
    rw [hw3] at H3 ⊢
    generalize w2.heap.size = gx at H3 ⊢
    clear HZ HB2 H2 hw3 x14
    have H4 : Aside0 (Sat W (w3.setCell ⟨gx, 14, none⟩ (.slice none 0 0)) (Blk gx (m.cs (.slice none 0 0) (.slice Am m.ms.length cm)) 31 :: Blk g1 (m.cs (.slice Ap m.ps.length cp) (.slice Am m.ms.length cm)) 31 :: [])) := ⟨H3.out.setBlk 14 (.slice none 0 0)⟩
    have f0 := H3.out.free 14
    have f1 := H3.out.cell 14 (v := .slice Ap m.ps.length cp) rfl
    go_upto_region 5 with fail
    generalize w3.setCell ⟨gx, 14, none⟩ (.slice none 0 0) = w4 at H4 ⊢
    clear H3 f0 f1
    have HC5 := Aside0.mk (ldC HI.out.hp H4.out)
    have HN5 := Aside0.mk (Sat.nilRow k26 26 H4.out)
    have c0 := H4.out.cell 14 (v := .slice none 0 0) rfl
    have c1 := (H4.out.nth 1 rfl).cell 14 (v := .slice Ap m.ps.length cp) rfl
    have hl5 : (([] : List Pt).length + m.ps.length) * 24 ≤ 140737488355328 := by simp only [List.length_nil]; omega
    go_upto_region 6 with (first | (at_builtin; go_loud (refine Sat.appendRows k26 rfl (.tmp 13) (.tmp 15) 28 26 (.agg #[.int .i64 0, .int .u64 0, .int .u64 0]) 24 rfl Try.underlying28 Go.Proofs.Ytpjljhiohimgcaa.WwW.infoPt rfl (by decide) (by omega) (.slice none 0 0) [] m.ps Ap m.ps.length cp rfl rfl HN5.out HC5.out (fun x cs h => by rw [k26_open h]; exact k26_mkM _ _ _ x) hl5 ?_; intro v5 w5 hs _; obtain ⟨A5, c5, hv, _, _⟩ := hs.rowSlice; subst hv; rw [List.nil_append] at hs ⊢; have z0 := (hs.nth 1 rfl).cell 14 (v := .slice none 0 0) rfl; have z1 := (hs.nth 1 rfl).free 14; have H5 := Aside0.mk hs; clear hs)))
    clear HC5 HN5 c0 c1 z0 z1 hl5
    have H6 : Aside0 (Sat W (w5.setCell ⟨gx, 14, none⟩ (.slice A5 m.ps.length c5)) (Blk gx (m.cs (.slice A5 m.ps.length c5) (.slice Am m.ms.length cm)) 31 :: Blk g1 (m.cs (.slice Ap m.ps.length cp) (.slice Am m.ms.length cm)) 31 :: Row k26 26 (.slice A5 m.ps.length c5) m.ps :: [])) := ⟨(((H5.out.nth 1 rfl).setBlk 14 (.slice A5 m.ps.length c5)).nth 2 rfl).nth 1 rfl⟩
    generalize w5.setCell ⟨gx, 14, none⟩ (.slice A5 m.ps.length c5) = w6 at H6 ⊢
    have H7a : Aside0 (Sat W (w6.setCell ⟨gx, 15, none⟩ (.slice none 0 0)) (Blk gx (m.cs (.slice A5 m.ps.length c5) (.slice none 0 0)) 31 :: Blk g1 (m.cs (.slice Ap m.ps.length cp) (.slice Am m.ms.length cm)) 31 :: Row k26 26 (.slice A5 m.ps.length c5) m.ps :: [])) := ⟨H6.out.setBlk 15 (.slice none 0 0)⟩
    have f0 := H6.out.free 15
    have f1 := H6.out.cell 15 (v := .slice Am m.ms.length cm) rfl
    go_upto_region 7 with fail
    generalize w6.setCell ⟨gx, 15, none⟩ (.slice none 0 0) = w7a at H7a ⊢
    clear H5 H6 f0 f1
    have HC7 := Aside0.mk (ldC HI.out.hm H7a.out)
    have HN7 := Aside0.mk (Sat.nilRow k49 49 H7a.out)
    have c0 := H7a.out.cell 15 (v := .slice none 0 0) rfl
    have c1 := (H7a.out.nth 1 rfl).cell 15 (v := .slice Am m.ms.length cm) rfl
    have hl7 : (([] : List Mt).length + m.ms.length) * 40 ≤ 140737488355328 := by simp only [List.length_nil]; omega
    go_upto_region 8 with (first | (at_builtin; go_loud (refine Sat.appendRows k49 rfl (.tmp 20) (.tmp 22) 29 49 (.agg #[.string ⟨#[]⟩, .int .i64 0, .int .i64 0, .int .u32 0]) 40 rfl Try.underlying29 Go.Proofs.Ytpjljhiohimgcaa.WwW.infoM rfl (by decide) (by omega) (.slice none 0 0) [] m.ms Am m.ms.length cm rfl rfl HN7.out HC7.out (fun x cs h => by rw [k49_open h]; exact k49_mkM _ _ _ x) hl7 ?_; intro v7 w7 hs _; obtain ⟨A7, c7, hv, _, _⟩ := hs.rowSlice; subst hv; rw [List.nil_append] at hs ⊢; have z0 := (hs.nth 1 rfl).cell 15 (v := .slice none 0 0) rfl; have z1 := (hs.nth 1 rfl).free 15; have H7 := Aside0.mk hs; clear hs)))
    clear HC7 HN7 c0 c1 z0 z1 hl7
    have H8 : Aside0 (Sat W (w7.setCell ⟨gx, 15, none⟩ (.slice A7 m.ms.length c7)) (Blk gx (m.cs (.slice A5 m.ps.length c5) (.slice A7 m.ms.length c7)) 31 :: Blk g1 (m.cs (.slice Ap m.ps.length cp) (.slice Am m.ms.length cm)) 31 :: Row k49 49 (.slice A7 m.ms.length c7) m.ms :: Row k26 26 (.slice A5 m.ps.length c5) m.ps :: [])) := ⟨(((H7.out.nth 1 rfl).setBlk 15 (.slice A7 m.ms.length c7)).nth 2 rfl).nth 1 rfl⟩
    generalize w7.setCell ⟨gx, 15, none⟩ (.slice A7 m.ms.length c7) = w8 at H8 ⊢
    clear H7 H7a
    have HIX : Aside0 (MIn w8 m A5 c5 A7 c7) := ⟨⟨HI.out.okp, HI.out.okm, HI.out.okv, HI.out.lp, HI.out.lm, (H8.out.nth 3 rfl).rowLen.2, (H8.out.nth 2 rfl).rowLen.2, (H8.out.nth 3 rfl).rowC, (H8.out.nth 2 rfl).rowC⟩⟩
    obtain ⟨bs, er, he⟩ : ∃ bs er, encR m = (bs, er) := ⟨_, _, rfl⟩
    have HE := Aside0.mk he
    have HB8 := Aside0.mk H8.out.blk
    clear he
    go_upto_region 9 with (first | ((with_reducible refine gate_ (.load 31 (.tmp 3)) rfl ?_); go_loud (refine wpList_load_row rfl 31 (.tmp 3) rfl gx rfl 31 _ (0, 0) _ HB8.out Try.underlying31 rfl (by kernel_rfl) ?_)) | (go_at_call 9; go_loud ((with_reducible refine (Go.Proofs.Ytpjljhiohimgcaa.WwW.Encode_calls w8 m A5 c5 A7 c7 HIX.out).mono ?_); intro e w9 ho; unfold EncOut at ho; rw [HE.out] at ho; obtain ⟨v9, rfl, hs⟩ := ho; obtain ⟨A9, c9, rfl, _, _⟩ := hs.rowSlice; have H9 := Aside0.mk (H8.out.joinRow hs); clear hs)))
    clear HB8 HIX H8
    have HB9 := Aside0.mk (H9.out.nth 2 rfl).blk
    go_upto_region 10 with (first | ((with_reducible refine gate_ (.load 31 (.tmp 1)) rfl ?_); go_loud (refine wpList_load_row rfl 31 (.tmp 1) rfl g1 rfl 31 _ (0, 0) _ HB9.out Try.underlying31 rfl (by kernel_rfl) ?_)) | (go_at_call 11; go_loud ((with_reducible refine (theirs_calls W w9 _ m Ap Am m.ps.length cp m.ms.length cm H9.out).mono ?_); rintro e wA ⟨rfl, hs⟩; have HA := Aside0.mk hs; clear hs)) | (go_at_call 10; go_loud ((with_reducible refine (Go.Proofs.Ytpjljhiohimgcaa.RoW.Encode_calls wA m Ap cp Am cm (HI.out.below HA.out.below)).mono ?_); intro e wB ho; unfold EncOut at ho; rw [HE.out] at ho; obtain ⟨vB, rfl, hs⟩ := ho; obtain ⟨AB, cB, rfl, _, _⟩ := hs.rowSlice; have HBB := Aside0.mk (HA.out.joinRow hs); clear hs)))
    clear HB9 HA H9
    obtain ⟨sb, hsb⟩ : ∃ sb, strOfNums bs = sb := ⟨_, rfl⟩
    have HSB := Aside0.mk hsb
    have HD := Aside0.mk HBB.out.drew
    have k9 := (show Sat W wB.drew (Row (Kd.int .u8) 5 (.slice A9 bs.length c9) bs :: _) from HD.out.nth 1 rfl).toString (P := Try.prog) (src := 33) (dst := 9) Try.underlying33 Try.underlying5 Try.underlying9
    have kB := (show Sat W wB.drew (Row (Kd.int .u8) 5 (.slice AB bs.length cB) bs :: _) from HD.out).toString (P := Try.prog) (src := 33) (dst := 9) Try.underlying33 Try.underlying5 Try.underlying9
    rw [hsb] at k9 kB
    clear hsb HBB
    refine start_ (n := 17) (S := fun w' => (convert 33 9 (.slice A9 bs.length c9)).run Try.prog w' = .ok (.string sb) w' ∧ (convert 33 9 (.slice AB bs.length cB)).run Try.prog w' = .ok (.string sb) w' ∧ w'.cell? ⟨gx, 0, none⟩ = some (.int .i64 m.kind) ∧ w'.cell? ⟨gx, 1, none⟩ = some (.int .i64 m.seq) ∧ w'.cell? ⟨gx, 2, none⟩ = some (.int .i64 m.epoch) ∧ w'.cell? ⟨gx, 3, none⟩ = some (.int .i64 m.space) ∧ w'.cell? ⟨gx, 4, none⟩ = some (.int .i64 m.shard) ∧ w'.cell? ⟨gx, 5, none⟩ = some (.string m.id) ∧ w'.cell? ⟨gx, 6, none⟩ = some (.int .i64 m.block) ∧ w'.cell? ⟨gx, 7, none⟩ = some (.int .i64 m.lo) ∧ w'.cell? ⟨gx, 8, none⟩ = some (.int .i64 m.hi) ∧ w'.cell? ⟨gx, 9, none⟩ = some (.int .i64 m.t) ∧ w'.cell? ⟨gx, 10, none⟩ = some (.int .u64 m.v) ∧ w'.cell? ⟨gx, 11, none⟩ = some (.int .u64 m.s) ∧ w'.cell? ⟨gx, 12, none⟩ = some (.int .i64 m.err) ∧ w'.cell? ⟨gx, 13, none⟩ = some (.bool m.more) ∧ w'.cell? ⟨gx, 14, none⟩ = some (.slice A5 m.ps.length c5) ∧ w'.cell? ⟨gx, 15, none⟩ = some (.slice A7 m.ms.length c7) ∧ w'.cell? ⟨g1, 0, none⟩ = some (.int .i64 m.kind) ∧ w'.cell? ⟨g1, 1, none⟩ = some (.int .i64 m.seq) ∧ w'.cell? ⟨g1, 2, none⟩ = some (.int .i64 m.epoch) ∧ w'.cell? ⟨g1, 3, none⟩ = some (.int .i64 m.space) ∧ w'.cell? ⟨g1, 4, none⟩ = some (.int .i64 m.shard) ∧ w'.cell? ⟨g1, 5, none⟩ = some (.string m.id) ∧ w'.cell? ⟨g1, 6, none⟩ = some (.int .i64 m.block) ∧ w'.cell? ⟨g1, 7, none⟩ = some (.int .i64 m.lo) ∧ w'.cell? ⟨g1, 8, none⟩ = some (.int .i64 m.hi) ∧ w'.cell? ⟨g1, 9, none⟩ = some (.int .i64 m.t) ∧ w'.cell? ⟨g1, 10, none⟩ = some (.int .u64 m.v) ∧ w'.cell? ⟨g1, 11, none⟩ = some (.int .u64 m.s) ∧ w'.cell? ⟨g1, 12, none⟩ = some (.int .i64 m.err) ∧ w'.cell? ⟨g1, 13, none⟩ = some (.bool m.more) ∧ w'.cell? ⟨g1, 14, none⟩ = some (.slice Ap m.ps.length cp) ∧ w'.cell? ⟨g1, 15, none⟩ = some (.slice Am m.ms.length cm)) (ds := [14]) #[false, false, false, false, false, false, false, false, false, false, false, false, false, false, false, false, false] (by kernel_rfl) rfl rfl ⟨k9, kB, ((show Sat W _ (Blk gx _ 31 :: _) from HD.out.nth 2 rfl).cell 0 rfl), ((show Sat W _ (Blk gx _ 31 :: _) from HD.out.nth 2 rfl).cell 1 rfl), ((show Sat W _ (Blk gx _ 31 :: _) from HD.out.nth 2 rfl).cell 2 rfl), ((show Sat W _ (Blk gx _ 31 :: _) from HD.out.nth 2 rfl).cell 3 rfl), ((show Sat W _ (Blk gx _ 31 :: _) from HD.out.nth 2 rfl).cell 4 rfl), ((show Sat W _ (Blk gx _ 31 :: _) from HD.out.nth 2 rfl).cell 5 rfl), ((show Sat W _ (Blk gx _ 31 :: _) from HD.out.nth 2 rfl).cell 6 rfl), ((show Sat W _ (Blk gx _ 31 :: _) from HD.out.nth 2 rfl).cell 7 rfl), ((show Sat W _ (Blk gx _ 31 :: _) from HD.out.nth 2 rfl).cell 8 rfl), ((show Sat W _ (Blk gx _ 31 :: _) from HD.out.nth 2 rfl).cell 9 rfl), ((show Sat W _ (Blk gx _ 31 :: _) from HD.out.nth 2 rfl).cell 10 rfl), ((show Sat W _ (Blk gx _ 31 :: _) from HD.out.nth 2 rfl).cell 11 rfl), ((show Sat W _ (Blk gx _ 31 :: _) from HD.out.nth 2 rfl).cell 12 rfl), ((show Sat W _ (Blk gx _ 31 :: _) from HD.out.nth 2 rfl).cell 13 rfl), ((show Sat W _ (Blk gx _ 31 :: _) from HD.out.nth 2 rfl).cell 14 rfl), ((show Sat W _ (Blk gx _ 31 :: _) from HD.out.nth 2 rfl).cell 15 rfl), ((show Sat W _ (Blk g1 _ 31 :: _) from HD.out.nth 3 rfl).cell 0 rfl), ((show Sat W _ (Blk g1 _ 31 :: _) from HD.out.nth 3 rfl).cell 1 rfl), ((show Sat W _ (Blk g1 _ 31 :: _) from HD.out.nth 3 rfl).cell 2 rfl), ((show Sat W _ (Blk g1 _ 31 :: _) from HD.out.nth 3 rfl).cell 3 rfl), ((show Sat W _ (Blk g1 _ 31 :: _) from HD.out.nth 3 rfl).cell 4 rfl), ((show Sat W _ (Blk g1 _ 31 :: _) from HD.out.nth 3 rfl).cell 5 rfl), ((show Sat W _ (Blk g1 _ 31 :: _) from HD.out.nth 3 rfl).cell 6 rfl), ((show Sat W _ (Blk g1 _ 31 :: _) from HD.out.nth 3 rfl).cell 7 rfl), ((show Sat W _ (Blk g1 _ 31 :: _) from HD.out.nth 3 rfl).cell 8 rfl), ((show Sat W _ (Blk g1 _ 31 :: _) from HD.out.nth 3 rfl).cell 9 rfl), ((show Sat W _ (Blk g1 _ 31 :: _) from HD.out.nth 3 rfl).cell 10 rfl), ((show Sat W _ (Blk g1 _ 31 :: _) from HD.out.nth 3 rfl).cell 11 rfl), ((show Sat W _ (Blk g1 _ 31 :: _) from HD.out.nth 3 rfl).cell 12 rfl), ((show Sat W _ (Blk g1 _ 31 :: _) from HD.out.nth 3 rfl).cell 13 rfl), ((show Sat W _ (Blk g1 _ 31 :: _) from HD.out.nth 3 rfl).cell 14 rfl), ((show Sat W _ (Blk g1 _ 31 :: _) from HD.out.nth 3 rfl).cell 15 rfl)⟩ (fun hHeld => ?_)
    refine with_tabW Wl.tab10 Wl.bits10 (fun HT_ HW_ => ?_)
    refine pure_ (i := 0) (N := some 36) (v := ?_) (a' := ?_) #[true, false, false, false, false, false, false, false, false, false, false, false, false, false, false, false, false] rfl rfl (any_of HT_.out (by kernel_rfl)) (fun _ _ _ h => h) (Or.inl ⟨by rfl, ?_⟩) ?_ ?_
    rotate_left
    · intro w'
      go_simp
      with_reducible rfl
    rotate_left
    · simp only [Act.put, List.setIfInBounds_toArray, List.set_cons_zero, List.set_cons_succ, i64_w, i32_w]
      rfl
    refine pure_ (i := 1) (N := some 37) (v := ?_) (a' := ?_) #[true, true, false, false, false, false, false, false, false, false, false, false, false, false, false, false, false] rfl rfl (any_of HT_.out (by kernel_rfl)) (fun _ _ _ h => h) (Or.inl ⟨by rfl, ?_⟩) ?_ ?_
    rotate_left
    · intro w'
      go_simp
      with_reducible rfl
    rotate_left
    · simp only [Act.put, List.setIfInBounds_toArray, List.set_cons_zero, List.set_cons_succ, i64_w, i32_w]
      rfl
    refine pure_ (i := 2) (N := some 38) (v := ?_) (a' := ?_) #[true, true, true, false, false, false, false, false, false, false, false, false, false, false, false, false, false] rfl rfl (any_of HT_.out (by kernel_rfl)) (fun _ _ _ h => h) (Or.inl ⟨by rfl, ?_⟩) ?_ ?_
    rotate_left
    · intro w'
      go_simp
      with_reducible rfl
    rotate_left
    · simp only [Act.put, List.setIfInBounds_toArray, List.set_cons_zero, List.set_cons_succ, i64_w, i32_w]
      rfl
    refine pure_ (i := 3) (N := some 39) (v := ?_) (a' := ?_) #[true, true, true, true, false, false, false, false, false, false, false, false, false, false, false, false, false] rfl rfl (any_of HT_.out (by kernel_rfl)) (fun _ _ _ h => h) (Or.inl ⟨by rfl, ?_⟩) ?_ ?_
    rotate_left
    · intro w'
      go_simp
      with_reducible rfl
    rotate_left
    · simp only [Act.put, List.setIfInBounds_toArray, List.set_cons_zero, List.set_cons_succ, i64_w, i32_w]
      rfl
    refine pure_ (i := 4) (N := some 40) (v := ?_) (a' := ?_) #[true, true, true, true, true, false, false, false, false, false, false, false, false, false, false, false, false] rfl rfl (any_of HT_.out (by kernel_rfl)) (fun _ _ _ h => h) (Or.inl ⟨by rfl, ?_⟩) ?_ ?_
    rotate_left
    · intro w'
      go_simp
      with_reducible rfl
    rotate_left
    · simp only [Act.put, List.setIfInBounds_toArray, List.set_cons_zero, List.set_cons_succ, i64_w, i32_w]
      rfl
    refine pure_ (i := 6) (N := some 42) (v := ?_) (a' := ?_) #[true, true, true, true, true, false, true, false, false, false, false, false, false, false, false, false, false] rfl rfl (any_of HT_.out (by kernel_rfl)) (fun _ _ _ h => h) (Or.inl ⟨by rfl, ?_⟩) ?_ ?_
    rotate_left
    · intro w'
      go_simp
      with_reducible rfl
    rotate_left
    · simp only [Act.put, List.setIfInBounds_toArray, List.set_cons_zero, List.set_cons_succ, i64_w, i32_w]
      rfl
    refine take_ (i := 5) (N := some 41) (v := ?_) (a' := ?_) #[true, true, true, true, true, true, true, false, false, false, false, false, false, false, false, false, false] rfl rfl (take_ofW HT_.out HW_.out (by kernel_rfl)) (fun _ _ _ h => h) (Or.inl ⟨by rfl, ?_⟩) hHeld ?_ ?_
    rotate_left
    · rintro w' ⟨s0, s1, s2, s3, s4, s5, s6, s7, s8, s9, s10, s11, s12, s13, s14, s15, s16, s17, s18, s19, s20, s21, s22, s23, s24, s25, s26, s27, s28, s29, s30, s31, s32, s33⟩
      go_simp
      with_reducible rfl
    rotate_left
    · simp only [Act.put, List.setIfInBounds_toArray, List.set_cons_zero, List.set_cons_succ, i64_w, i32_w]
      rfl
    refine take_ (i := 7) (N := some 43) (v := ?_) (a' := ?_) #[true, true, true, true, true, true, true, true, false, false, false, false, false, false, false, false, false] rfl rfl (take_ofW HT_.out HW_.out (by kernel_rfl)) (fun _ _ _ h => h) (Or.inl ⟨by rfl, ?_⟩) hHeld ?_ ?_
    rotate_left
    · rintro w' ⟨s0, s1, s2, s3, s4, s5, s6, s7, s8, s9, s10, s11, s12, s13, s14, s15, s16, s17, s18, s19, s20, s21, s22, s23, s24, s25, s26, s27, s28, s29, s30, s31, s32, s33⟩
      go_simp
      with_reducible rfl
    rotate_left
    · simp only [Act.put, List.setIfInBounds_toArray, List.set_cons_zero, List.set_cons_succ, i64_w, i32_w]
      rfl
    refine pure_ (i := 8) (N := some 44) (v := ?_) (a' := ?_) #[true, true, true, true, true, true, true, true, true, false, false, false, false, false, false, false, false] rfl rfl (any_of HT_.out (by kernel_rfl)) (fun _ _ _ h => h) (Or.inl ⟨by rfl, ?_⟩) ?_ ?_
    rotate_left
    · intro w'
      go_simp
      with_reducible rfl
    rotate_left
    · simp only [Act.put, List.setIfInBounds_toArray, List.set_cons_zero, List.set_cons_succ, i64_w, i32_w]
      rfl
    refine pure_ (i := 9) (N := some 45) (v := ?_) (a' := ?_) #[true, true, true, true, true, true, true, true, true, true, false, false, false, false, false, false, false] rfl rfl (any_of HT_.out (by kernel_rfl)) (fun _ _ _ h => h) (Or.inl ⟨by rfl, ?_⟩) ?_ ?_
    rotate_left
    · intro w'
      go_simp
      with_reducible rfl
    rotate_left
    · simp only [Act.put, List.setIfInBounds_toArray, List.set_cons_zero, List.set_cons_succ, i64_w, i32_w]
      rfl
    refine pure_ (i := 10) (N := some 46) (v := ?_) (a' := ?_) #[true, true, true, true, true, true, true, true, true, true, true, false, false, false, false, false, false] rfl rfl (any_of HT_.out (by kernel_rfl)) (fun _ _ _ h => h) (Or.inl ⟨by rfl, ?_⟩) ?_ ?_
    rotate_left
    · intro w'
      go_simp
      with_reducible rfl
    rotate_left
    · simp only [Act.put, List.setIfInBounds_toArray, List.set_cons_zero, List.set_cons_succ, i64_w, i32_w]
      rfl
    refine take_ (i := 11) (N := some 47) (v := ?_) (a' := ?_) #[true, true, true, true, true, true, true, true, true, true, true, true, false, false, false, false, false] rfl rfl (take_ofW HT_.out HW_.out (by kernel_rfl)) (fun _ _ _ h => h) (Or.inl ⟨by rfl, ?_⟩) hHeld ?_ ?_
    rotate_left
    · rintro w' ⟨s0, s1, s2, s3, s4, s5, s6, s7, s8, s9, s10, s11, s12, s13, s14, s15, s16, s17, s18, s19, s20, s21, s22, s23, s24, s25, s26, s27, s28, s29, s30, s31, s32, s33⟩
      go_simp
      with_reducible rfl
    rotate_left
    · simp only [Act.put, List.setIfInBounds_toArray, List.set_cons_zero, List.set_cons_succ, i64_w, i32_w]
      rfl
    refine take_ (i := 12) (N := some 48) (v := ?_) (a' := ?_) #[true, true, true, true, true, true, true, true, true, true, true, true, true, false, false, false, false] rfl rfl (take_ofW HT_.out HW_.out (by kernel_rfl)) (fun _ _ _ h => h) (Or.inl ⟨by rfl, ?_⟩) hHeld ?_ ?_
    rotate_left
    · rintro w' ⟨s0, s1, s2, s3, s4, s5, s6, s7, s8, s9, s10, s11, s12, s13, s14, s15, s16, s17, s18, s19, s20, s21, s22, s23, s24, s25, s26, s27, s28, s29, s30, s31, s32, s33⟩
      go_simp
      with_reducible rfl
    rotate_left
    · simp only [Act.put, List.setIfInBounds_toArray, List.set_cons_zero, List.set_cons_succ, i64_w, i32_w]
      rfl
    refine one_ (i := 13) (N := some 49) #[true, true, true, true, true, true, true, true, true, true, true, true, true, true, false, false, false] rfl rfl (one_of HT_.out (by kernel_rfl)) (by decide) (fun K hK => ?_)
    refine goes_ Try.func11 (by kernel_rfl) rfl #[.agg (m.cs (.slice Ap m.ps.length cp) (.slice Am m.ms.length cm))] (by rfl) rfl rfl (by simp only [List.map_toArray, List.map_cons, List.map_nil]; rfl) ?_
    with_reducible refine (theirs_calls W _ _ m Ap Am m.ps.length cp m.ms.length cm HD.out).mono ?_
    rintro e w13 ⟨rfl, hs13⟩
    refine ⟨_, rfl, ?_⟩
    have H13 := Aside0.mk hs13
    clear hs13
    have q9 := (show Sat W w13 (Row (Kd.int .u8) 5 (.slice A9 bs.length c9) bs :: _) from H13.out.nth 1 rfl).toString (P := Try.prog) (src := 33) (dst := 9) Try.underlying33 Try.underlying5 Try.underlying9
    have qB := (show Sat W w13 (Row (Kd.int .u8) 5 (.slice AB bs.length cB) bs :: _) from H13.out).toString (P := Try.prog) (src := 33) (dst := 9) Try.underlying33 Try.underlying5 Try.underlying9
    rw [HSB.out] at q9 qB
    refine hK.out _ _ ⟨q9, qB, ((show Sat W _ (Blk gx _ 31 :: _) from H13.out.nth 2 rfl).cell 0 rfl), ((show Sat W _ (Blk gx _ 31 :: _) from H13.out.nth 2 rfl).cell 1 rfl), ((show Sat W _ (Blk gx _ 31 :: _) from H13.out.nth 2 rfl).cell 2 rfl), ((show Sat W _ (Blk gx _ 31 :: _) from H13.out.nth 2 rfl).cell 3 rfl), ((show Sat W _ (Blk gx _ 31 :: _) from H13.out.nth 2 rfl).cell 4 rfl), ((show Sat W _ (Blk gx _ 31 :: _) from H13.out.nth 2 rfl).cell 5 rfl), ((show Sat W _ (Blk gx _ 31 :: _) from H13.out.nth 2 rfl).cell 6 rfl), ((show Sat W _ (Blk gx _ 31 :: _) from H13.out.nth 2 rfl).cell 7 rfl), ((show Sat W _ (Blk gx _ 31 :: _) from H13.out.nth 2 rfl).cell 8 rfl), ((show Sat W _ (Blk gx _ 31 :: _) from H13.out.nth 2 rfl).cell 9 rfl), ((show Sat W _ (Blk gx _ 31 :: _) from H13.out.nth 2 rfl).cell 10 rfl), ((show Sat W _ (Blk gx _ 31 :: _) from H13.out.nth 2 rfl).cell 11 rfl), ((show Sat W _ (Blk gx _ 31 :: _) from H13.out.nth 2 rfl).cell 12 rfl), ((show Sat W _ (Blk gx _ 31 :: _) from H13.out.nth 2 rfl).cell 13 rfl), ((show Sat W _ (Blk gx _ 31 :: _) from H13.out.nth 2 rfl).cell 14 rfl), ((show Sat W _ (Blk gx _ 31 :: _) from H13.out.nth 2 rfl).cell 15 rfl), ((show Sat W _ (Blk g1 _ 31 :: _) from H13.out.nth 3 rfl).cell 0 rfl), ((show Sat W _ (Blk g1 _ 31 :: _) from H13.out.nth 3 rfl).cell 1 rfl), ((show Sat W _ (Blk g1 _ 31 :: _) from H13.out.nth 3 rfl).cell 2 rfl), ((show Sat W _ (Blk g1 _ 31 :: _) from H13.out.nth 3 rfl).cell 3 rfl), ((show Sat W _ (Blk g1 _ 31 :: _) from H13.out.nth 3 rfl).cell 4 rfl), ((show Sat W _ (Blk g1 _ 31 :: _) from H13.out.nth 3 rfl).cell 5 rfl), ((show Sat W _ (Blk g1 _ 31 :: _) from H13.out.nth 3 rfl).cell 6 rfl), ((show Sat W _ (Blk g1 _ 31 :: _) from H13.out.nth 3 rfl).cell 7 rfl), ((show Sat W _ (Blk g1 _ 31 :: _) from H13.out.nth 3 rfl).cell 8 rfl), ((show Sat W _ (Blk g1 _ 31 :: _) from H13.out.nth 3 rfl).cell 9 rfl), ((show Sat W _ (Blk g1 _ 31 :: _) from H13.out.nth 3 rfl).cell 10 rfl), ((show Sat W _ (Blk g1 _ 31 :: _) from H13.out.nth 3 rfl).cell 11 rfl), ((show Sat W _ (Blk g1 _ 31 :: _) from H13.out.nth 3 rfl).cell 12 rfl), ((show Sat W _ (Blk g1 _ 31 :: _) from H13.out.nth 3 rfl).cell 13 rfl), ((show Sat W _ (Blk g1 _ 31 :: _) from H13.out.nth 3 rfl).cell 14 rfl), ((show Sat W _ (Blk g1 _ 31 :: _) from H13.out.nth 3 rfl).cell 15 rfl)⟩ (fun hHeld => ?_)
    clear hK K
    refine norm_ (a' := ?_) ?_ ?_
    rotate_left
    · show Act.put _ (some 49) _ = _
      simp only [Act.put, List.setIfInBounds_toArray, List.set_cons_zero, List.set_cons_succ, i64_w, i32_w]
      rfl
    refine last_ (i := 14) (N := some 50) #[true, true, true, true, true, true, true, true, true, true, true, true, true, true, true, false, false] rfl rfl (one_of HT_.out (by kernel_rfl)) (by decide) (fun K hK => ?_)
    refine goes_ Try.func12 (by kernel_rfl) rfl #[.agg (m.cs (.slice A5 m.ps.length c5) (.slice A7 m.ms.length c7)), .agg (m.cs (.slice Ap m.ps.length cp) (.slice Am m.ms.length cm))] (by rfl) rfl rfl (by simp only [List.map_toArray, List.map_cons, List.map_nil]; rfl) ?_
    with_reducible refine (same_calls W _ _ m A5 A7 Ap Am c5 c7 cp cm (show Sat W w13 (Row k26 26 (.slice A5 m.ps.length c5) m.ps :: _) from H13.out.nth 5 rfl).rowC (show Sat W w13 (Row k49 49 (.slice A7 m.ms.length c7) m.ms :: _) from H13.out.nth 4 rfl).rowC (ldC HI.out.hp H13.out) (ldC HI.out.hm H13.out) HI.out.lp HI.out.lm H13.out).mono ?_
    rintro e w14 ⟨rfl, hs14⟩
    refine ⟨_, rfl, ?_⟩
    have H14 := Aside0.mk hs14
    clear hs14
    refine hK.out _ _ ?_
    clear hK K
    refine norm_ (a' := ?_) ?_ ?_
    rotate_left
    · show Act.put _ (some 50) _ = _
      simp only [Act.put, List.setIfInBounds_toArray, List.set_cons_zero, List.set_cons_succ, i64_w, i32_w]
      rfl
    refine pure_ (i := 15) (N := some 51) (v := ?_) (a' := ?_) #[true, true, true, true, true, true, true, true, true, true, true, true, true, true, true, true, false] rfl rfl (any_of HT_.out (by kernel_rfl)) (fun _ _ _ h => h) (Or.inl ⟨by rfl, ?_⟩) ?_ ?_
    rotate_left
    · intro w'
      go_simp
      with_reducible rfl
    rotate_left
    · simp only [Act.put, List.setIfInBounds_toArray, List.set_cons_zero, List.set_cons_succ, i64_w, i32_w]
      rfl
    refine pure_ (i := 16) (N := some 2) (v := ?_) (a' := ?_) #[true, true, true, true, true, true, true, true, true, true, true, true, true, true, true, true, true] rfl rfl (any_of HT_.out (by kernel_rfl)) (fun _ _ _ h => h) (Or.inl ⟨by rfl, ?_⟩) ?_ ?_
    rotate_left
    · intro w'
      go_simp
      with_reducible rfl
    rotate_left
    · simp only [Act.put, List.setIfInBounds_toArray, List.set_cons_zero, List.set_cons_succ, i64_w, i32_w]
      rfl
    refine done_ (done_of HT_.out (by kernel_rfl)) ?_
    go_wp2
    go_ret
    exact ⟨rfl, H14.out.below⟩
end Go.Proofs.Ytpjljhiohimgcaa.LwWireEncodes
namespace Go.Proofs.Ytpjljhiohimgcaa.wireEncodes
open Go.ChangeShapes Go.WideShapes Go.ChangeAt Go.RowKit
open Go.ChangeMaps (open_string shut_string)
set_option linter.unusedVariables false
theorem own : ownKnob Try.prog.godebug = none := by kernel_rfl
theorem laidOut : laidOutB Try.prog = true := by kernel_rfl
set_option maxRecDepth 100000 in
theorem lifted (os : Os) (started : os.Started) (H : Type) (enc : TypeId × Value → H) :
    ReturnsInHanded {} Try.checked os 4 .any (Rows.wireEncodesSpec.pre6 enc Try.prog Try.f4 Rows.wireEncodesRow.domain false) (Rows.wireEncodesSpec.post enc Try.prog Try.f4 false true false false) := by
  refine returnsInHanded_of_change_sized (C := Try.checked) own started (by kernel_rfl) Try.func4
    (ChangeSpec.witness6 (enc := enc) (C := Try.checked) false ⟨#[], #[.agg #[.int .i64 0, .int .i64 0, .int .i64 0, .int .i64 0, .int .i64 0, .string ByteArray.empty, .int .i64 0, .int .i64 0, .int .i64 0, .int .i64 0, .int .u64 0, .int .u64 0, .int .i64 0, .bool false, .slice none 0 0, .slice none 0 0]], []⟩ 8 (by kernel_rfl) (by kernel_rfl) (by kernel_rfl) (by kernel_rfl)) ?_
  intro W base args ds gs before hval0 hW hcnd hsz0 _
  have hsz : (DataW.weightsEach Try.prog (Try.f4.params.toList ++ Rows.wireEncodesSpec.plain.varTypes Try.prog) (ds ++ gs)).all (· ≤ reachBytes) = true := hsz0
  have hval : ∀ (j : Nat) t v, Try.f4.params[j]? = some t → args[j]? = some v → Value.okWide Try.prog W .any base t v := hval0
  have hW' := hW
  obtain ⟨p, q, hA0, hV, rfl, hfz, hnd⟩ := hW
  have hA : DataW.TrodAll enc Try.prog W 0 (fun _ => true) true Try.f4.params.toList args.toList ds p := hA0
  rw [Try.params4] at hA hval hsz
  obtain ⟨v0, vs0, d0, ds0, p0, q0, hargs, rfl, rfl, h0, r0⟩ := trodAll_cons hA
  obtain ⟨rfl, rfl, rfl⟩ := trodAll_nil r0
  obtain rfl : args = #[v0] := by cases args; simp_all
  obtain ⟨rfl, rfl⟩ := trodVars_none hV
  obtain ⟨cs0, rfl, sz0⟩ := okWide_struct Try.underlying31 (hval 0 31 v0 rfl rfl)
  have k0 := h0
  have lt0 : ∀ x ∈ p0, x.block < W.heap.size := by obtain ⟨m, hm⟩ := k0; exact DataW.trod_lt m _ _ _ hm
  obtain ⟨x0, A0, c0, B0, d0c, rfl, z0, w0⟩ := MsO.open_msg_arg hsz (j := 0) rfl rfl h0
  clear hA0 hval0 hsz0 hsz
  refine (LwWireEncodes.WireEncodes_calls W x0 A0 c0 B0 d0c z0 w0).mono fun e W' ⟨he, bel⟩ => ?_
  subst he
  exact ⟨_, rfl, _, _, _, [], _, [], hW', trodAll_mk1 (shut_bool Try.underlying4 _), (trodAll_cons_mk (Below.trod laidOut (by kernel_rfl) (of_decide_eq_true (by kernel_rfl)) k0 bel lt0) trodAll_mk0), rfl, bel.frame _, fun h => by cases h⟩
theorem over : Rows.wireEncodesRow.holds Try.pinned (OpenSpec.ofChange Rows.wireEncodesSpec) :=
  OpenClaim.holds_of_wide 4 Try.f4 rfl rfl rfl rfl rfl rfl rfl ⟨rfl, rfl, rfl, rfl, rfl⟩ rfl rfl rfl rfl rfl (by kernel_rfl) Try.func4 (by kernel_rfl)
    (of_decide_eq_true (by kernel_rfl)) (by unfold Func.isWrapper; first | (rw [if_pos (by decide +kernel)]; kernel_rfl) | (rw [if_neg (by decide +kernel)]; exact ⟨rfl, rfl⟩))
    (fun os started H enc _ => lifted os started H enc)
theorem proved : Rows.WireEncodesSaid := over
#print axioms proved
end Go.Proofs.Ytpjljhiohimgcaa.wireEncodes
namespace Go.Proofs.Ytpjljhiohimgcaa
/-- The row, under a short name, for the claim. -/
theorem wireEncodes_holds : Rows.WireEncodesSaid := wireEncodes.proved
end Go.Proofs.Ytpjljhiohimgcaa
