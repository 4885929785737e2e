/- What the call of the codec's decoder's deferred function comes to.
   What functions of the translation come to, each as a Lean function, and a proof that the call comes to just that; or a law's row, out of its plain law. Written by mp.py, a program of this session, which runs the printer of the kit with stand-in bodies for some library functions. -/
import Derived.Test.YtmnlbedgkjnodaaDoorZTszOne16
import Derived.Test.YtmnlbedgkjnodaaDoorZTszOne8
import Derived.Test.YtmnlbedgkjnodaaDoorZTszOne2
import Derived.Test.YtmnlbedgkjnodaaDoorZTszOne13
import Derived.Defers
import Derived.Recover
import Derived.Test.YtmnlbedgkjnodaaDoorZTszOne0
set_option linter.unusedSimpArgs false
set_option linter.unusedVariables false
namespace Go.Proofs.YtmnlbedgkjnodaaDoor.TdW
open Go.RowKit Go.Proofs.YtmnlbedgkjnodaaDoorW.PrintWords Go.Proofs.YtmnlbedgkjnodaaDoorW.PrintLast Go.Proofs.YtmnlbedgkjnodaaDoorW.PrintMore Go.Proofs.YtmnlbedgkjnodaaDoor.QB Go.Proofs.YtmnlbedgkjnodaaDoor.Sl Go.Proofs.YtmnlbedgkjnodaaDoor.Bt Go.Proofs.YtmnlbedgkjnodaaDoor.WrW Go.Proofs.YtmnlbedgkjnodaaDoor.RdW Go.Proofs.YtmnlbedgkjnodaaDoor.TzP Go.Proofs.YtmnlbedgkjnodaaDoor.TzW Go.Proofs.YtmnlbedgkjnodaaDoor.TeP Go.Proofs.YtmnlbedgkjnodaaDoor.TeW Go.Proofs.YtmnlbedgkjnodaaDoor.TdP Go.Proofs.YtmnlbedgkjnodaaDoor.Ld
theorem catch_idle (p q : Addr) (w : World) :
    CallsD Tryd.prog 34 #[.pointer (some p), .pointer (some q)] .returning w fun e u' w' => e = .returned (.tuple #[]) ∧ u' = .returning ∧ w' = w := by
  refine callsD_of_wpS Tryd.func34 rfl fun c₀ cs hu => ?_
  apply wpS_seq
  apply wpS_region
  simp [wpOpsS, go_sem, recoverD, hu, Tryd.ntmps34, Exit.thenS]
  apply wpS_seq
  apply wpS_region
  simp [wpOpsS, go_sem, Exit.thenS]
  refine wpS_cond (t := false) (by simp [Act.eval, Array.replicate]) ?_
  simp only [Bool.false_eq_true, if_false]
  refine wpS_of_wp (wp_skip ?_)
  cases c₀
  simp_all [bodyPostS, results, Tryd.results34]
set_option maxHeartbeats 4000000 in
theorem catch_panicking {w0 : World} {L : List Asn} (g1 g2 : Nat) (v x : Value) (older : List PanicEntry) (w : World) (h : Sat w0 w (Blk g1 #[v] 22 :: Blk g2 #[x] 24 :: L)) :
    CallsD Tryd.prog 34 #[.pointer (some ⟨g1, 0, none⟩), .pointer (some ⟨g2, 0, none⟩)] (.panicking (wrongE :: older)) w fun e u' w' => e = .returned (.tuple #[]) ∧ u' = .panicking ({ wrongE with recovered := true } :: older) ∧ Sat w0 w' (Blk g1 #[.slice none 0 0] 22 :: Blk g2 #[.int .i64 50] 24 :: L) := by
  have h0 := (h.newBlk #[] 63).tail
  have c1 := h0.cell 0 (v := v) rfl
  have f1 := h0.free 0
  have h1 := (h0.setBlk 0 (.slice none 0 0)).nth 1 rfl
  have c2 := h1.cell 0 (v := x) rfl
  have f2 := h1.free 0
  have h2 := (h1.setBlk 0 (.int .i64 50)).nth 1 rfl
  have HS := Aside0.mk h2
  clear h h0 h1 h2
  refine callsD_of_wpS Tryd.func34 rfl fun c₀ cs hu => ?_
  apply wpS_seq
  apply wpS_region
  simp [wpOpsS, go_sem, recoverD, hu, wrongE, Tryd.ntmps34, Exit.thenS]
  apply wpS_seq
  apply wpS_region
  simp [wpOpsS, go_sem, Exit.thenS]
  refine wpS_cond (t := true) (by simp [Act.eval, Array.replicate]) ?_
  simp only [if_true]
  refine wpS_of_wp ?_
  have hta : ∀ W : World, (Instr.typeAssert (.iface 63 (.agg #[])) 20 63 true).run Tryd.prog W = .ok (.tuple #[.agg #[], .bool true]) W := by
    intro W
    have hu := Tryd.underlying63
    simp [Instr.typeAssert, run_underlying hu, go_sem, Result.andThen]
  set_option maxRecDepth 20000 in
  go_wp2
  cases c₀
  simp_all [bodyPostS, results, Tryd.results34]
  all_goals exact HS.out
end Go.Proofs.YtmnlbedgkjnodaaDoor.TdW
namespace Go.Proofs.YtmnlbedgkjnodaaDoor.QB
open Go.RowKit Go.Proofs.YtmnlbedgkjnodaaDoorW.PrintWords Go.Proofs.YtmnlbedgkjnodaaDoorW.PrintLast Go.Proofs.YtmnlbedgkjnodaaDoorW.PrintMore
attribute [local go_sem] max2_int min2_int max_two min_two max_three min_three max_four min_four   -- for this text's walks alone
theorem eqA33 (d : Nat) (w : World) (x0 y0 : Int) (x1 y1 : Int) (x2 y2 : Int) :
    (Op.equalIn (d + 2) 33 (.agg #[.int .i64 x0, .int .u64 x1, .int .u64 x2]) (.agg #[.int .i64 y0, .int .u64 y1, .int .u64 y2])).run Tryd.prog w = .ok (x0 == y0 && (x1 == y1 && (x2 == y2))) w := by
  refine eqA_of Tryd.underlying33 (by kernel_rfl) ?_
  refine eqf_cons (by rfl) (by go_simp; rfl) (by go_simp; rfl) (by go_simp) ?_
  refine eqf_cons (by rfl) (by go_simp; rfl) (by go_simp; rfl) (by go_simp) ?_
  exact eqf_last (by rfl) (by go_simp; rfl) (by go_simp; rfl) (by go_simp)
end Go.Proofs.YtmnlbedgkjnodaaDoor.QB
namespace Go.Proofs.YtmnlbedgkjnodaaDoor.QB
open Go.RowKit Go.Proofs.YtmnlbedgkjnodaaDoorW.PrintWords Go.Proofs.YtmnlbedgkjnodaaDoorW.PrintLast Go.Proofs.YtmnlbedgkjnodaaDoorW.PrintMore
attribute [local go_sem] max2_int min2_int max_two min_two max_three min_three max_four min_four   -- for this text's walks alone
attribute [local go_sem high] eqA33
end Go.Proofs.YtmnlbedgkjnodaaDoor.QB
