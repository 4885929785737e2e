/- What the calls of the laws' theirs and same come to.
   Plain words: an argument that can be read as data, told as a kind's reading. -/
import Derived.Test.YtpjljhiohimgcaaZWireFields6
import Derived.Laws.Rows
import Derived.Test.YtpjljhiohimgcaaWEqStruct
import Derived.WalkSpells
import Derived.Outline
import Derived.StillTailTactics
import Derived.Deep.CutBlock
import Derived.Test.YtpjljhiohimgcaaWKept
import Derived.Test.YtpjljhiohimgcaaWMore
import Derived.Deep.Slices
import Derived.ChangeArms
import Derived.SizedLaws
import Derived.ChangeSlices
namespace Go.Proofs.Ytpjljhiohimgcaa.SaW
open Go.RowKit Go.Proofs.YtpjljhiohimgcaaW.PrintWords Go.Proofs.YtpjljhiohimgcaaW.PrintLast Go.Proofs.YtpjljhiohimgcaaW.PrintMore Go.Proofs.Ytpjljhiohimgcaa.QB Go.Proofs.Ytpjljhiohimgcaa.Sl Go.Proofs.Ytpjljhiohimgcaa.WpP
set_option linter.unusedVariables false
set_option linter.unusedSimpArgs false
theorem eqR (d : Nat) (w : World) (x0 y0 : Int) (x1 y1 : Int) :
    (Op.equalIn (d + 2) 23 (.agg #[.int .i64 x0, .int .i64 x1]) (.agg #[.int .i64 y0, .int .i64 y1])).run Try.prog w = .ok (x0 == y0 && (x1 == y1)) w := by
  refine eqA_of Try.underlying23 (by kernel_rfl) ?_
  refine eqf_cons (by rfl) (by go_simp; rfl) (by go_simp; rfl) (by go_simp) ?_
  exact eqf_last (by rfl) (by go_simp; rfl) (by go_simp; rfl) (by go_simp)
theorem eqP (d : Nat) (w : World) (x0 y0 : Int) (x1 y1 : Int) (x2 y2 : Int) :
    (Op.equalIn (d + 2) 26 (.agg #[.int .i64 x0, .int .u64 x1, .int .u64 x2]) (.agg #[.int .i64 y0, .int .u64 y1, .int .u64 y2])).run Try.prog w = .ok (x0 == y0 && (x1 == y1 && (x2 == y2))) w := by
  refine eqA_of Try.underlying26 (by kernel_rfl) ?_
  refine eqf_cons (by rfl) (by go_simp; rfl) (by go_simp; rfl) (by go_simp) ?_
  refine eqf_cons (by rfl) (by go_simp; rfl) (by go_simp; rfl) (by go_simp) ?_
  exact eqf_last (by rfl) (by go_simp; rfl) (by go_simp; rfl) (by go_simp)
theorem eqM (d : Nat) (w : World) (x0 y0 : ByteArray) (x1 y1 : Int) (x2 y2 : Int) (x3 y3 : Int) :
    (Op.equalIn (d + 2) 49 (.agg #[.string x0, .int .i64 x1, .int .i64 x2, .int .u32 x3]) (.agg #[.string y0, .int .i64 y1, .int .i64 y2, .int .u32 y3])).run Try.prog w = .ok (x0.toList == y0.toList && (x1 == y1 && (x2 == y2 && (x3 == y3)))) w := by
  refine eqA_of Try.underlying49 (by kernel_rfl) ?_
  refine eqf_cons (by rfl) (by go_simp; rfl) (by go_simp; rfl) (by go_simp) ?_
  refine eqf_cons (by rfl) (by go_simp; rfl) (by go_simp; rfl) (by go_simp) ?_
  refine eqf_cons (by rfl) (by go_simp; rfl) (by go_simp; rfl) (by go_simp) ?_
  exact eqf_last (by rfl) (by go_simp; rfl) (by go_simp; rfl) (by go_simp)
attribute [local go_sem high] eqR eqP eqM
def zM : Array Value := Msg.cs ⟨0, 0, 0, 0, 0, ⟨#[]⟩, 0, 0, 0, 0, 0, 0, 0, false, [], []⟩ (.slice none 0 0) (.slice none 0 0)
set_option maxHeartbeats 4000000 in
set_option maxRecDepth 100000 in
theorem theirs_calls (w0 w : World) (L : List Asn) (m : Msg) (Ap Am : Option Addr) (np cp nm cm : Nat) (h : Sat w0 w L) :
    Calls Try.prog 11 #[.agg (m.cs (.slice Ap np cp) (.slice Am nm cm))] w fun e w' => e = .returned (.agg (m.cs (.slice Ap np cp) (.slice Am nm cm))) ∧ Sat w0 w' L := by
  have h1 := (h.newBlk (m.cs (.slice Ap np cp) (.slice Am nm cm)) 31).newBlk zM 37
  rw [alloc_size] at h1
  have H1 := Aside0.mk h1
  clear h h1
  go_enter Try.func11, Try.ntmps11
  go_upto_region 1 with fail
  show Code.wp _ _ _ _ ((w.alloc (.cells (m.cs (.slice Ap np cp) (.slice Am nm cm)) 31)).alloc (.cells zM 37))
  generalize (w.alloc (.cells (m.cs (.slice Ap np cp) (.slice Am nm cm)) 31)).alloc (.cells zM 37) = w1 at H1 ⊢
  generalize w.heap.size + 1 = g2 at H1 ⊢
  generalize w.heap.size = g1 at H1 ⊢
  have x0 := (H1.out.nth 1 rfl).cell 0 (v := .int .i64 m.kind) rfl
  have x1 := (H1.out.nth 1 rfl).cell 1 (v := .int .i64 m.seq) rfl
  have x2 := (H1.out.nth 1 rfl).cell 2 (v := .int .i64 m.epoch) rfl
  have x3 := (H1.out.nth 1 rfl).cell 3 (v := .int .i64 m.space) rfl
  have x4 := (H1.out.nth 1 rfl).cell 4 (v := .int .i64 m.shard) rfl
  have x5 := (H1.out.nth 1 rfl).cell 5 (v := .string m.id) rfl
  have x6 := (H1.out.nth 1 rfl).cell 6 (v := .int .i64 m.block) rfl
  have x7 := (H1.out.nth 1 rfl).cell 7 (v := .int .i64 m.lo) rfl
  have x8 := (H1.out.nth 1 rfl).cell 8 (v := .int .i64 m.hi) rfl
  have x9 := (H1.out.nth 1 rfl).cell 9 (v := .int .i64 m.t) rfl
  have x10 := (H1.out.nth 1 rfl).cell 10 (v := .int .u64 m.v) rfl
  have x11 := (H1.out.nth 1 rfl).cell 11 (v := .int .u64 m.s) rfl
  have x12 := (H1.out.nth 1 rfl).cell 12 (v := .int .i64 m.err) rfl
  have x13 := (H1.out.nth 1 rfl).cell 13 (v := .bool m.more) rfl
  have x14 := (H1.out.nth 1 rfl).cell 14 (v := .slice Ap np cp) rfl
  have x15 := (H1.out.nth 1 rfl).cell 15 (v := .slice Am nm cm) rfl
  go_wp2_with (first | ((with_reducible refine gate_store (p := 2) rfl ?_); go_loud (refine wpList_store_row rfl 37 (.tmp 2) (.tmp 29) rfl g2 (m.cs (.slice Ap np cp) (.slice Am nm cm)) rfl rfl 37 _ H1.out.blk (by kernel_rfl) rfl (by simp [Msg.cs, Value.oneCell']) ?_; have H2 := Aside0.mk (H1.out.setRow (m.cs (.slice Ap np cp) (.slice Am nm cm))))))
  refine bodyPost_ret (results_cell_row rfl _ _ g2 37 _ (0, 0) _ rfl H2.out.blk Try.underlying37 rfl (by kernel_rfl)) rfl ?_
  exact ⟨rfl, H2.out.tail.tail⟩
set_option maxHeartbeats 8000000 in
set_option maxRecDepth 100000 in
theorem same_calls (w0 w : World) (L : List Asn) (m : Msg) (Ap Am Bp Bm : Option Addr) (cp cm dp dm : Nat) (hp : Kd.C k26 w Ap m.ps.length m.ps) (hm : Kd.C k49 w Am m.ms.length m.ms) (hq : Kd.C k26 w Bp m.ps.length m.ps) (hn : Kd.C k49 w Bm m.ms.length m.ms)
    (lp : m.ps.length ≤ 1000000) (lm : m.ms.length ≤ 1000000) (h : Sat w0 w L) :
    Calls Try.prog 12 #[.agg (m.cs (.slice Ap m.ps.length cp) (.slice Am m.ms.length cm)), .agg (m.cs (.slice Bp m.ps.length dp) (.slice Bm m.ms.length dm))] w fun e w' => e = .returned (.bool true) ∧ Sat w0 w' L := by
  have h1 := (h.newBlk (m.cs (.slice Ap m.ps.length cp) (.slice Am m.ms.length cm)) 31).newBlk (m.cs (.slice Bp m.ps.length dp) (.slice Bm m.ms.length dm)) 37
  rw [alloc_size] at h1
  have H1 := Aside0.mk h1
  have HB : Below w.heap.size w ((w.alloc (.cells (m.cs (.slice Ap m.ps.length cp) (.slice Am m.ms.length cm)) 31)).alloc (.cells (m.cs (.slice Bp m.ps.length dp) (.slice Bm m.ms.length dm)) 37)) := below_alloc (below_alloc (Below.refl _ _) _) _
  have HP := Aside0.mk (Kd.C_below hp HB)
  have HM := Aside0.mk (Kd.C_below hm HB)
  have HQ := Aside0.mk (Kd.C_below hq HB)
  have HN := Aside0.mk (Kd.C_below hn HB)
  clear h h1 hp hm hq hn HB
  go_enter Try.func12, Try.ntmps12
  go_upto_region 1 with fail
  show Code.wp _ _ _ _ ((w.alloc (.cells (m.cs (.slice Ap m.ps.length cp) (.slice Am m.ms.length cm)) 31)).alloc (.cells (m.cs (.slice Bp m.ps.length dp) (.slice Bm m.ms.length dm)) 37))
  generalize (w.alloc (.cells (m.cs (.slice Ap m.ps.length cp) (.slice Am m.ms.length cm)) 31)).alloc (.cells (m.cs (.slice Bp m.ps.length dp) (.slice Bm m.ms.length dm)) 37) = w1 at H1 HP HM HQ HN ⊢
  generalize w.heap.size + 1 = g2 at H1 ⊢
  generalize w.heap.size = g1 at H1 ⊢
  have x0 := (H1.out.nth 1 rfl).cell 0 (v := .int .i64 m.kind) rfl
  have y0 := H1.out.cell 0 (v := .int .i64 m.kind) rfl
  have x1 := (H1.out.nth 1 rfl).cell 1 (v := .int .i64 m.seq) rfl
  have y1 := H1.out.cell 1 (v := .int .i64 m.seq) rfl
  have x2 := (H1.out.nth 1 rfl).cell 2 (v := .int .i64 m.epoch) rfl
  have y2 := H1.out.cell 2 (v := .int .i64 m.epoch) rfl
  have x3 := (H1.out.nth 1 rfl).cell 3 (v := .int .i64 m.space) rfl
  have y3 := H1.out.cell 3 (v := .int .i64 m.space) rfl
  have x4 := (H1.out.nth 1 rfl).cell 4 (v := .int .i64 m.shard) rfl
  have y4 := H1.out.cell 4 (v := .int .i64 m.shard) rfl
  have x5 := (H1.out.nth 1 rfl).cell 5 (v := .string m.id) rfl
  have y5 := H1.out.cell 5 (v := .string m.id) rfl
  have x6 := (H1.out.nth 1 rfl).cell 6 (v := .int .i64 m.block) rfl
  have y6 := H1.out.cell 6 (v := .int .i64 m.block) rfl
  have x7 := (H1.out.nth 1 rfl).cell 7 (v := .int .i64 m.lo) rfl
  have y7 := H1.out.cell 7 (v := .int .i64 m.lo) rfl
  have x8 := (H1.out.nth 1 rfl).cell 8 (v := .int .i64 m.hi) rfl
  have y8 := H1.out.cell 8 (v := .int .i64 m.hi) rfl
  have x9 := (H1.out.nth 1 rfl).cell 9 (v := .int .i64 m.t) rfl
  have y9 := H1.out.cell 9 (v := .int .i64 m.t) rfl
  have x10 := (H1.out.nth 1 rfl).cell 10 (v := .int .u64 m.v) rfl
  have y10 := H1.out.cell 10 (v := .int .u64 m.v) rfl
  have x11 := (H1.out.nth 1 rfl).cell 11 (v := .int .u64 m.s) rfl
  have y11 := H1.out.cell 11 (v := .int .u64 m.s) rfl
  have x12 := (H1.out.nth 1 rfl).cell 12 (v := .int .i64 m.err) rfl
  have y12 := H1.out.cell 12 (v := .int .i64 m.err) rfl
  have x13 := (H1.out.nth 1 rfl).cell 13 (v := .bool m.more) rfl
  have y13 := H1.out.cell 13 (v := .bool m.more) rfl
  have x14 := (H1.out.nth 1 rfl).cell 14 (v := .slice Ap m.ps.length cp) rfl
  have y14 := H1.out.cell 14 (v := .slice Bp m.ps.length dp) rfl
  have x15 := (H1.out.nth 1 rfl).cell 15 (v := .slice Am m.ms.length cm) rfl
  have y15 := H1.out.cell 15 (v := .slice Bm m.ms.length dm) rfl
  go_upto_region 3 with fail
  clear x0 y0 x1 y1 x2 y2 x3 y3 x4 y4 x5 y5 x6 y6 x7 y7 x8 y8 x9 y9 x10 y10 x11 y11 x12 y12 x13 y13 x14 y14 x15 y15
  go_wp2
  go_loopw [5] (fun v5 wr => ∃ i k : Nat, i ≤ m.ps.length ∧ v5 = .int .i64 i ∧ Aside0 (wr = w1.drewN k)) (fun v5 _ => m.ps.length - (intOf v5).toNat)
  case atStart => exact ⟨0, 0, by omega, rfl, ⟨rfl⟩⟩
  case round =>
    obtain ⟨i, k, hi, rfl, HW⟩ := hrel
    have HR : Aside0 (Sat w0 wr _) := ⟨by have h := H1.out.drewN k; rw [← HW.out] at h; exact h⟩
    have x14 := (HR.out.nth 1 rfl).cell 14 (v := .slice Ap m.ps.length cp) rfl
    have y14 := HR.out.cell 14 (v := .slice Bp m.ps.length dp) rfl
    by_cases hlt : i < m.ps.length
    · have d1 : decide ((i : Int) < (m.ps.length : Int)) = true := decide_eq_true (by omega)
      have d1' : decide (i < m.ps.length) = true := decide_eq_true hlt
      have e1 : IntKind.i64.wrap ((i : Int) + 1) = ((i + 1 : Nat) : Int) := by rw [IntKind.wrap_i64]; omega
      have hPk : Kd.C k26 wr.drew Ap m.ps.length m.ps := by rw [HW.out]; exact Kd.C_drewN HP.out (k + 1)
      have hQk : Kd.C k26 wr.drew Bp m.ps.length m.ps := by rw [HW.out]; exact Kd.C_drewN HQ.out (k + 1)
      obtain ⟨ad, rfl, _⟩ := at_T26 hPk (i : Int) (by omega) (by omega)
      obtain ⟨bd, rfl, _⟩ := at_T26 hQk (i : Int) (by omega) (by omega)
      obtain ⟨p0, p1, p2⟩ := ptAt hPk i hlt rfl
      obtain ⟨q0, q1, q2⟩ := ptAt hQk i hlt rfl
      have X14 : wr.drew.cell? ⟨g1, 14, none⟩ = some (.slice (some ad) m.ps.length cp) := x14
      have Y14 : wr.drew.cell? ⟨g2, 14, none⟩ = some (.slice (some bd) m.ps.length dp) := y14
      have hi0 : (0 : Int) ≤ (i : Int) := by omega
      have hi1 : (i : Int) < (m.ps.length : Int) := by omega
      obtain ⟨xi, hxi⟩ : ∃ xi, m.ps[i] = xi := ⟨_, rfl⟩
      rw [hxi] at p0 p1 p2 q0 q1 q2
      clear hPk hQk hxi
      have HLT := Aside0.mk hlt
      go_upto_region 6 with fail
      go_region
      go_wp2
      go_roundw
      case measure => have := HLT.out; simp only [intOf]; omega
      case rel => exact ⟨i + 1, k + 1, by have := HLT.out; omega, by go_num, ⟨by rw [HW.out]; rfl⟩⟩
    · have d1 : decide ((i : Int) < (m.ps.length : Int)) = false := decide_eq_false (by omega)
      have d1' : decide (i < m.ps.length) = false := decide_eq_false hlt
      clear hlt hi
      go_wp2
      go_loopw [6] (fun v6 wr => ∃ i k : Nat, i ≤ m.ms.length ∧ v6 = .int .i64 i ∧ Aside0 (wr = w1.drewN k)) (fun v6 _ => m.ms.length - (intOf v6).toNat)
      case atStart => exact ⟨0, k, by omega, rfl, HW⟩
      case round =>
        clear x14 y14 HR d1 d1' HW
        obtain ⟨i, k, hi, rfl, HW⟩ := hrel
        have HR : Aside0 (Sat w0 wr _) := ⟨by have h := H1.out.drewN k; rw [← HW.out] at h; exact h⟩
        have x15 := (HR.out.nth 1 rfl).cell 15 (v := .slice Am m.ms.length cm) rfl
        have y15 := HR.out.cell 15 (v := .slice Bm m.ms.length dm) rfl
        by_cases hlt : i < m.ms.length
        · have d1 : decide ((i : Int) < (m.ms.length : Int)) = true := decide_eq_true (by omega)
          have d1' : decide (i < m.ms.length) = true := decide_eq_true hlt
          have e1 : IntKind.i64.wrap ((i : Int) + 1) = ((i + 1 : Nat) : Int) := by rw [IntKind.wrap_i64]; omega
          have hPk : Kd.C k49 wr.drew Am m.ms.length m.ms := by rw [HW.out]; exact Kd.C_drewN HM.out (k + 1)
          have hQk : Kd.C k49 wr.drew Bm m.ms.length m.ms := by rw [HW.out]; exact Kd.C_drewN HN.out (k + 1)
          obtain ⟨ad, rfl, _⟩ := at_T49 hPk (i : Int) (by omega) (by omega)
          obtain ⟨bd, rfl, _⟩ := at_T49 hQk (i : Int) (by omega) (by omega)
          obtain ⟨p0, p1, p2, p3⟩ := mtAt hPk i hlt rfl
          obtain ⟨q0, q1, q2, q3⟩ := mtAt hQk i hlt rfl
          have X15 : wr.drew.cell? ⟨g1, 15, none⟩ = some (.slice (some ad) m.ms.length cm) := x15
          have Y15 : wr.drew.cell? ⟨g2, 15, none⟩ = some (.slice (some bd) m.ms.length dm) := y15
          have hi0 : (0 : Int) ≤ (i : Int) := by omega
          have hi1 : (i : Int) < (m.ms.length : Int) := by omega
          obtain ⟨xi, hxi⟩ : ∃ xi, m.ms[i] = xi := ⟨_, rfl⟩
          rw [hxi] at p0 p1 p2 p3 q0 q1 q2 q3
          clear hPk hQk hxi
          have HLT := Aside0.mk hlt
          go_upto_region 11 with fail
          go_region
          go_wp2
          go_roundw
          case measure => have := HLT.out; simp only [intOf]; omega
          case rel => exact ⟨i + 1, k + 1, by have := HLT.out; omega, by go_num, ⟨by rw [HW.out]; rfl⟩⟩
        · have d1 : decide ((i : Int) < (m.ms.length : Int)) = false := decide_eq_false (by omega)
          have d1' : decide (i < m.ms.length) = false := decide_eq_false hlt
          clear hlt hi
          go_wp2
          go_ret
          exact ⟨rfl, HR.out.tail.tail⟩
end Go.Proofs.Ytpjljhiohimgcaa.SaW
namespace Go.Proofs.Ytpjljhiohimgcaa.Op
open Go.RowKit Go.ChangeShapes Go.WideShapes Go.Deep Go.Proofs.YtpjljhiohimgcaaW.PrintWords Go.Proofs.YtpjljhiohimgcaaW.PrintLast Go.Proofs.YtpjljhiohimgcaaW.PrintMore
set_option linter.unusedVariables false
set_option linter.unusedSimpArgs false

/-- Whatever cells of type e can be read as data, they are read by the kind d, and ok holds of the value. -/
def Opens (P : Program) (e : TypeId) {α : Type} (d : Kd α) (ok : α → Prop) : Prop :=
  ∀ (H : Type) (enc : TypeId × Value → H) (w : World) (base : Nat) (spare : Nat → Bool) (held : Bool) (fuel : Nat) (cs : List Value) (y : DataW H × List MemPlace), DataW.trod enc P w base spare held fuel e cs = some y → ∃ x : α, d.K w x cs ∧ ok x
section
variable {P : Program} {e t : TypeId} {α β : Type} {d : Kd α} {a : Kd α} {b : Kd β} {ok oka : α → Prop} {okb : β → Prop}
theorem opens_int {k : IntKind} (he : P.underlying e = some (.int k)) : Opens P e (Kd.int k) (fun x => (Lit.int k x).wf = true) := by
  intro H enc w base spare held fuel cs y h
  obtain ⟨n, rfl, _, hw⟩ := DataW.trod_int he h
  exact ⟨n, rfl, hw⟩
theorem opens_bool (he : P.underlying e = some .bool) : Opens P e Kd.bool (fun _ => True) := by
  intro H enc w base spare held fuel cs y h
  obtain ⟨n, rfl, _⟩ := DataW.trod_bool he h
  exact ⟨n, rfl, trivial⟩
theorem opens_string (he : P.underlying e = some .string) : Opens P e Kd.string (fun x => x.size ≤ maxLen) := by
  intro H enc w base spare held fuel cs y h
  obtain ⟨n, rfl, _, hw⟩ := DataW.trod_string he h
  exact ⟨n, rfl, hw⟩
theorem opens_iso {g : α → β} {f : β → α} (hfg : ∀ x, f (g x) = x) (h : Opens P e d ok) : Opens P e (Kd.iso d f) (fun y => ok (f y)) := by
  intro H enc w base spare held fuel cs y h1
  obtain ⟨x, hk, ho⟩ := h H enc w base spare held fuel cs y h1
  refine ⟨g x, ?_, ?_⟩
  · show d.K w (f (g x)) cs
    rw [hfg]
    exact hk
  · show ok (f (g x))
    rw [hfg]
    exact ho
theorem opens_mono {ok' : α → Prop} (h : Opens P e d ok) (hm : ∀ x, ok x → ok' x) : Opens P e d ok' := by
  intro H enc w base spare held fuel cs y h1
  obtain ⟨x, hk, ho⟩ := h H enc w base spare held fuel cs y h1
  exact ⟨x, hk, hm x ho⟩
theorem opens_slice (ht : P.underlying t = some (.slice e)) (hc : P.cellsOf e = d.sz) (h : Opens P e d ok) : Opens P t (Kd.slice e d) (fun xs => ∀ x ∈ xs, ok x) := by
  intro H enc w base spare held fuel cs y h1
  rcases open_slice ht h1 with ⟨rfl, _⟩ | ⟨ad, len, cap, m, n, D, Pl, rfl, hb, hl, hm, hmm, _, hi⟩
  · exact ⟨[], ⟨none, 0, rfl, Nat.le_refl _, Kd.C_nil d w⟩, fun x hx => by simp at hx⟩
  · have hlm : len ≤ m := by rw [hmm]; split <;> omega
    have key : ∀ k, k ≤ len → ∃ xs : List α, xs.length = k ∧ (∀ x ∈ xs, ok x) ∧ ∀ j p, xs[j]? = some p → ∃ c : List Value, c.length = d.sz ∧ d.K w p c ∧ ∀ i u, c[i]? = some u → w.cell? (ad.add (j * d.sz + i)) = some u := by
      intro k
      induction k with
      | zero => exact fun _ => ⟨[], rfl, fun x hx => by simp at hx, fun j p hj => by simp at hj⟩
      | succ k ih =>
        intro hk
        obtain ⟨xs, h2, h3, h4⟩ := ih (by omega)
        obtain ⟨cs', h5, h6⟩ := hi k (by omega)
        obtain ⟨x, hkx, hox⟩ := h H enc w base spare held n cs' _ h6
        obtain ⟨_, hcl, hat⟩ := World.cells?_some h5
        refine ⟨xs ++ [x], by rw [List.length_append, h2]; rfl, fun z hz => ?_, fun j p hj => ?_⟩
        · rcases List.mem_append.1 hz with hz | hz
          · exact h3 z hz
          · rw [List.mem_singleton.1 hz]; exact hox
        · rcases Nat.lt_or_ge j xs.length with hjl | hjl
          · rw [List.getElem?_append_left hjl] at hj
            exact h4 j p hj
          · rw [List.getElem?_append_right hjl] at hj
            have hj0 : j = xs.length := by
              rcases Nat.lt_or_ge xs.length j with hlt | hge
              · rw [List.getElem?_eq_none (by simp; omega)] at hj
                cases hj
              · omega
            subst hj0
            rw [Nat.sub_self] at hj
            have hxp : x = p := by simpa using hj
            subst hxp
            refine ⟨cs', by rw [hcl, hc], hkx, fun i u hu => ?_⟩
            have hil : i < P.cellsOf e := by
              rw [← hcl]
              exact (List.getElem?_eq_some_iff.1 hu).1
            have h7 := hat i hil
            rw [Go.Deep.add_add, hc, hu, ← h2] at h7
            exact h7
    obtain ⟨xs, h2, h3, h4⟩ := key len (Nat.le_refl _)
    refine ⟨xs, ⟨some ad, cap, by rw [h2], by omega, rfl, ?_, fun hp => ⟨ad, rfl, h4⟩⟩, h3⟩
    rw [h2]
    simp only [maxLen] at hm
    omega

/-- The fields of a struct, from the cell o on. -/
def OpensFs (P : Program) (l : List Field) (o : Nat) {α : Type} (d : Kd α) (ok : α → Prop) : Prop :=
  ∀ (H : Type) (enc : TypeId × Value → H) (w : World) (base : Nat) (spare : Nat → Bool) (held : Bool) (cs : List Value), cs.length = o + d.sz →
    (∀ f ∈ l, ∃ n y, DataW.trod enc P w base spare held n f.type ((cs.drop f.offset).take (P.cellsOf f.type)) = some y) → ∃ x : α, d.K w x (cs.drop o) ∧ ok x
theorem opensFs_last {f : Field} {o : Nat} (ho : f.offset = o) (hc : P.cellsOf f.type = d.sz) (h : Opens P f.type d ok) : OpensFs P [f] o d ok := by
  intro H enc w base spare held cs hl hf
  obtain ⟨n, y, h1⟩ := hf f List.mem_cons_self
  rw [ho, hc, List.take_of_length_le (by rw [List.length_drop]; omega)] at h1
  exact h H enc w base spare held n _ y h1
theorem opensFs_cons {f : Field} {l : List Field} {o : Nat} (ho : f.offset = o) (hc : P.cellsOf f.type = a.sz) (h : Opens P f.type a oka) (hl : OpensFs P l (o + a.sz) b okb) : OpensFs P (f :: l) o (Kd.pair a b) (fun x => oka x.1 ∧ okb x.2) := by
  intro H enc w base spare held cs hcs hf
  have hs : (Kd.pair a b).sz = a.sz + b.sz := rfl
  rw [hs] at hcs
  obtain ⟨n, y, h1⟩ := hf f List.mem_cons_self
  rw [ho, hc] at h1
  obtain ⟨x0, h2, h3⟩ := h H enc w base spare held n _ y h1
  obtain ⟨x1, h4, h5⟩ := hl H enc w base spare held cs (by omega) (fun g hg => hf g (List.mem_cons_of_mem _ hg))
  refine ⟨(x0, x1), ⟨(cs.drop o).take a.sz, cs.drop (o + a.sz), ?_, h2, h4⟩, h3, h5⟩
  rw [← List.drop_drop, List.take_append_drop]
theorem opens_struct {fs : Array Field} (ht : P.underlying t = some (.struct fs)) (hsz : P.cellsOf t = d.sz) (h : OpensFs P fs.toList 0 d ok) : Opens P t d ok := by
  intro H enc w base spare held fuel cs y h1
  obtain ⟨xs, n, _, _, h2, h3, h4⟩ := DataW.trod_struct ht h1
  obtain ⟨x, hk, ho⟩ := h H enc w base spare held cs (by rw [h2, hsz]; omega) (fun f hf => by
    obtain ⟨i, hi, rfl⟩ := List.mem_iff_getElem.1 hf
    have hi' : i < fs.size := by simpa using hi
    have h5 := h4 i fs[i] (Array.getElem?_eq_getElem hi')
    rw [List.getElem?_eq_getElem (by omega)] at h5
    exact ⟨n, _, by simpa using h5⟩)
  exact ⟨x, by simpa using hk, ho⟩
/-- How many elements fit: by the row's own weights. -/
theorem sized_any {H : Type} {enc : TypeId × Value → H} {W : World} {base : Nat} {spare : Nat → Bool} {held : Bool} {ad : Option Addr} {len cap : Nat} {dd : DataW H} {ps : List MemPlace} {ts : List TypeId} {ds : List (DataW H)} {j : Nat}
    (hsz : (DataW.weightsEach P ts ds).all (· ≤ reachBytes) = true) (ht : ts[j]? = some t) (hd : ds[j]? = some dd) (hu : P.underlying t = some (.slice e)) {B : Nat} (hB : P.bytesOf e = B)
    (h : DataW.Trod enc P W base spare held t (.slice ad len cap) dd ps) : len * B ≤ 140737488351232 := by
  obtain ⟨fuel, hf⟩ := h
  rcases open_slice hu hf with ⟨hcs, _⟩ | ⟨x, l, c, m, n, D, Pl, hcs, _, hl, _, hmm, hx, _⟩
  · simp [Value.cells] at hcs
    obtain ⟨rfl, rfl, rfl⟩ := hcs
    simp
  · simp [Value.cells] at hcs
    obtain ⟨rfl, rfl, rfl⟩ := hcs
    obtain ⟨hx, _⟩ := Prod.mk.inj hx
    subst hx
    have z := sized_slice hsz ht hd hu
    rw [hB] at z
    simp only [List.length_map, List.length_range, reachBytes] at z
    have : len * B ≤ (len + (m - len)) * B := Nat.mul_le_mul_right _ (by omega)
    omega
/-- A slice argument, opened. -/
theorem open_slice_arg {H : Type} {enc : TypeId × Value → H} {W : World} {base : Nat} {spare : Nat → Bool} {held : Bool} {ad : Option Addr} {len cap : Nat} {dd : DataW H} {ps : List MemPlace} {D : Kd (List α)} {okl : List α → Prop}
    (hD : D = Kd.slice e d) (ho : Opens P t D okl) (h : DataW.Trod enc P W base spare held t (.slice ad len cap) dd ps) : ∃ xs : List α, len = xs.length ∧ xs.length ≤ cap ∧ d.C W ad xs.length xs ∧ okl xs := by
  subst hD
  obtain ⟨fuel, hf⟩ := h
  obtain ⟨xs, ⟨A, c, hcs, hl, hC⟩, hok⟩ := ho H enc W base spare held fuel _ _ hf
  simp [Value.cells] at hcs
  obtain ⟨rfl, rfl, rfl⟩ := hcs
  exact ⟨xs, rfl, hl, hC, hok⟩
/-- A struct argument, opened. -/
theorem open_agg_arg {H : Type} {enc : TypeId × Value → H} {W : World} {base : Nat} {spare : Nat → Bool} {held : Bool} {cs : Array Value} {dd : DataW H} {ps : List MemPlace}
    (ho : Opens P t d ok) (h : DataW.Trod enc P W base spare held t (.agg cs) dd ps) : ∃ x : α, d.K W x (Value.agg cs).cells.toList ∧ ok x := by
  obtain ⟨fuel, hf⟩ := h
  exact ho H enc W base spare held fuel _ _ hf
end
end Go.Proofs.Ytpjljhiohimgcaa.Op
