/- More words for a walk's memory (see Sl): rows with room, appends in a region that draws, a call that panics in one.
   What a disk's changes come to. -/
import Derived.Test.YtlngljhinboglaaZDiskSynced1
import Derived.Test.YtlngljhinboglaaZDiskSynced4
namespace Go.Proofs.Ytlngljhinboglaa.Sl
open Go.RowKit Go.Proofs.YtlngljhinboglaaW.PrintWords Go.Proofs.YtlngljhinboglaaW.PrintLast Go.Proofs.YtlngljhinboglaaW.PrintMore
set_option linter.unusedVariables false
set_option linter.unusedSimpArgs false
theorem Sat.madeRow {α : Type} {w0 w : World} {L : List Asn} (d : Kd α) (e : Nat) (c : Nat) (cells : Array Value) (hc : c ≤ maxLen) (hsz : cells.size = c * d.sz) (h : Sat w0 w L) : Sat w0 (w.alloc (.cells cells e)) (Row d e (.slice (some ⟨w.heap.size, 0, none⟩) 0 c) ([] : List α) :: L) := by
  refine h.push (below_alloc (Below.refl _ _) _) (G' := fun k => k = w.heap.size) ⟨fun k hk => ?_, [], ?_, Reps.none _ _⟩ (fun k hk => by subst hk; simp)
  · have : w.heap.size = k := by simpa [Value.ownBlock] using hk
    exact this.symm
  · exact World.ownsRow_made w cells c h.size hc hsz
section
variable {P : Program} {ops : Array Oper} {o : Oper} {a : Act} {Q : Exit → Act → World → Prop} {Kc : Act → World → Prop} {α : Type}
/-- append(v, p) in a region that draws its order; p's cells need no other block. -/
theorem Sat.appendStep (d : Kd α) {w0 W : World} {L : List Asn} (hw : Region.wanted o (yielded ops a.tmps) = true) (s x : Operand) (t e : TypeId) (z : Value) (bytes : Nat)
    (ho : o.op = .call { callee := .builtin .append, args := #[s, x], argTypes := #[t, t] })
    (ht : P.underlying t = some (.slice e)) (hinfo : (P.info? e).map (fun i => (i.zero, i.size, i.bytes)) = some (some z, d.sz, bytes)) (hz : z.cells.size = d.sz) (hs0 : 0 < d.sz) (hb0 : 0 < bytes)
    (v : Value) (xs : List α) (p : α) (cs : List Value) (hs : a.eval s = v) (hx : a.eval x = .slice (some ⟨W.heap.size, 0, none⟩) 1 1) (hp : d.M W w0.heap.size (fun _ => False) p cs)
    (HS : Sat w0 W (Row d e v xs :: L)) (hl : (xs.length + 1) * bytes ≤ 140737488355328)
    (h : ∀ v1 w1, Sat w0 w1 (Row d e v1 (xs ++ [p]) :: L) → W.heap.size ≤ w1.heap.size → Kc (a.put o.dst v1) w1) :
    if Region.wanted o (yielded ops a.tmps) = true then Oper.wp P o a (W.alloc (.cells cs.toArray e)) Kc Q else Kc (a.put o.dst undef) (W.alloc (.cells cs.toArray e)) := by
  obtain ⟨G, h1, h2, h3⟩ := HS.seps
  refine Kd.R_append_step d w0.heap.size hw s x t e z bytes ho ht hinfo hz hs0 hb0 v xs p cs (fun k => G k ∨ W.heap.size ≤ k) (fun _ => False) hs hx hp (fun _ hk => hk.elim) (fun _ hk => .inr hk)
    (Kd.R_mono h1 (fun _ hk => .inl hk)) HS.below HS.size hl ?_
  intro v1 w1 hR hB hg _
  exact h v1 w1 (Sat.grew HS.below h2 h3 hR hB hg (fun k hk => h1.1 k hk)) hg.size
/-- A call that panics, in a region that draws its order. -/
theorem goesP_ {oi : Oper} {N : Option Tmp} {w : World} {K : Act → World → Prop} {f : FuncId} {fn : Func} {as_ : Array Operand} {ts : Array TypeId} (hf : P.funcs[f]? = some fn) (hname : (fn.name == "runtime.NumGoroutine") = false) (hb : fn.body.isSome = true) (args : Array Value)
    (hw : Region.wanted oi (yielded ops a.tmps) = true) (hop : oi.op = .call { callee := .value (.func f), args := as_, argTypes := ts }) (hargs : as_.map a.eval = args) (chain : List PanicEntry)
    (h : Calls P f args w fun e w' => e = .panicked chain ∧ Q (.panic chain) a w') : if Region.wanted oi (yielded ops a.tmps) = true then Oper.wp P oi a w K Q else K (a.put N undef) w := by
  rw [if_pos hw]
  have he := enters_ hf hname hb args w
  have hrun : (execOp a.eval oi).run P w = .ok (.enter f args) w := by
    unfold execOp
    simp [hop, resolve, Deferred.ofValue, invoke, Act.eval, hargs, he]
  unfold Oper.wp
  rw [hrun, Oper.upon_enter]
  refine h.mono ?_
  rintro e w' ⟨rfl, hq⟩
  exact hq
end
end Go.Proofs.Ytlngljhinboglaa.Sl
namespace Go.Proofs.Ytlngljhinboglaa.DkN
open Go.RowKit Go.WideMaps Go.ChangeMaps Go.MapKept Go.Maps Go.Lib Go.Proofs.YtlngljhinboglaaW.PrintWords Go.Proofs.YtlngljhinboglaaW.PrintLast Go.Proofs.YtlngljhinboglaaW.PrintMore Go.Proofs.Ytlngljhinboglaa.Sl Go.Proofs.Ytlngljhinboglaa.DkP Go.Proofs.Ytlngljhinboglaa.DkS Go.Proofs.Ytlngljhinboglaa.DkW Go.Proofs.Ytlngljhinboglaa.DkT Go.Proofs.Ytlngljhinboglaa.DkV Go.Proofs.Ytlngljhinboglaa.DkC Go.Proofs.Ytlngljhinboglaa.DkM
set_option linter.unusedVariables false
set_option linter.unusedSimpArgs false
theorem infoFC : (Try.prog.info? 63).map (fun i => (i.zero, i.size, i.bytes)) = some (some (.agg #[.nilFunc, .bool false, .int .i64 0]), 3, 24) := by kernel_rfl
section
variable {P : Program} {ops : Array Oper} {Q : Exit → Act → World → Prop}
/-- A call of a function's value, in a region that draws its order. -/
theorem goesV_ {oi : Oper} {N : Option Tmp} {a : Act} {w : World} {K : Act → World → Prop} {f : FuncId} {fn : Func} {x : Operand} {as_ : Array Operand} {ts : Array TypeId} (hf : P.funcs[f]? = some fn) (hname : (fn.name == "runtime.NumGoroutine") = false) (hb : fn.body.isSome = true) (caps args : Array Value)
    (hw : Region.wanted oi (yielded ops a.tmps) = true) (hN : oi.dst = N) (hv : a.eval x = .func (.func f) #[] caps) (hop : oi.op = .call { callee := .value x, args := as_, argTypes := ts }) (hargs : as_.map a.eval ++ caps = args)
    (h : Calls P f args w fun e w' => ∃ v, e = .returned v ∧ K (a.put N v) w') : if Region.wanted oi (yielded ops a.tmps) = true then Oper.wp P oi a w K Q else K (a.put N undef) w := by
  refine call_ f args hw hN ?_ h
  have he := enters_ hf hname hb args w
  unfold execOp
  subst hargs
  simp [hop, resolve, Deferred.ofValue, invoke, hv, he]
end
def Cap1 (p : FC) (c : Ch) : Asn := ⟨fun B w F => FnOf w F p c, fun h hw => h.loc (fun _ h => h) hw⟩
theorem Cap1.fn {w0 w : World} {L : List Asn} {p : FC} {c : Ch} (h : Sat w0 w (Cap1 p c :: L)) : FnOf w (fun k => w0.heap.size ≤ k ∧ k < w.heap.size) p c := by
  obtain ⟨G, hg, hb⟩ := h.get
  exact FnOf.loc (w := w) (F := G) hg hb fun _ _ => rfl
theorem Caps.snoc {w0 w : World} {L : List Asn} {ps : List FC} {cs : List Ch} {p : FC} {c : Ch} (h : Sat w0 w (Caps ps cs :: Cap1 p c :: L)) : Sat w0 w (Caps (ps ++ [p]) (cs ++ [c]) :: L) := by
  obtain ⟨G1, ⟨e1, h1⟩, h2, G2, h3, h4, h5⟩ := h.seps
  refine ⟨h.below, fun k => G1 k ∨ G2 k, ⟨by simp [e1], fun i q d hq hd => ?_⟩, fun k hk => hk.elim (h2 k) fun h => (h4 k h).1, h5.mono fun k hk => ⟨hk.1.1, fun h => h.elim hk.1.2 hk.2⟩⟩
  rcases Nat.lt_or_ge i ps.length with hi | hi
  · rw [List.getElem?_append_left hi] at hq
    rw [List.getElem?_append_left (by omega)] at hd
    exact (h1 i q d hq hd).loc (fun _ h => .inl h) fun _ _ => rfl
  · rw [List.getElem?_append_right hi] at hq
    rw [List.getElem?_append_right (by omega), ← e1] at hd
    have hz : i - ps.length = 0 := by
      have := (List.getElem?_eq_some_iff.1 hq).1
      simp only [List.length_singleton] at this
      omega
    rw [hz] at hq hd
    simp only [List.getElem?_cons_zero, Option.some.injEq] at hq hd
    subst hq hd
    exact FnOf.loc (F := G2) h3 (fun _ h => .inr h) fun _ _ => rfl
theorem do_calls (w0 w : World) (L : List Asn) (b : Nat) (f : FS Cnt) (ms : List (Nat × FS Cnt)) (c : Ch) (p : FC) {F : Nat → Prop} (hfit : Fit c) (hfn : FnOf w F p c) (hf : f.length < 1000000) (hr : Rising f) (ht : tot f ≤ 500000000000) (h : Sat w0 w (Store ((b, f) :: ms) [] :: L)) :
    p.2.2 = c.size ∧ ∃ k fn, .func k = p.1.1 ∧ Try.prog.funcs[k]? = some fn ∧ (fn.name == "runtime.NumGoroutine") = false ∧ fn.body.isSome = true ∧ Calls Try.prog k (#[.map (some b), .int .i64 p.2.2] ++ p.1.2) w fun e w' => e = .returned (.tuple #[]) ∧ Sat w0 w' (Store ((b, c.go c.size f) :: ms) [] :: L) := by
  have hm : maxLen = 9223372036854775807 := rfl
  cases c with
  | app a s =>
    obtain ⟨x, y, rfl, _, _, sx, sy⟩ := hfn
    have h1 : a.size ≤ 40 := hfit.1
    have h2 : s.size ≤ 68719476736 := hfit.2
    have := len_le_tot (k := nm a) hr
    exact ⟨rfl, _, _, rfl, Try.func30, by kernel_rfl, by kernel_rfl, app_calls w0 w L b x y f ms a s s.size (Nat.le_refl _) (by omega) hf (by omega) sx sy h⟩
  | ren a d =>
    obtain ⟨x, y, rfl, _, _, sx, sy⟩ := hfn
    have h1 : a.size ≤ 40 := hfit.1
    have h2 : d.size ≤ 40 := hfit.2
    exact ⟨rfl, _, _, rfl, Try.func46, by kernel_rfl, by kernel_rfl, ren_calls w0 w L b x y 0 f ms a d (by omega) (by omega) hf sx sy h⟩
  | rem a =>
    obtain ⟨x, rfl, _, sx⟩ := hfn
    have h1 : a.size ≤ 40 := hfit
    exact ⟨rfl, _, _, rfl, Try.func32, by kernel_rfl, by kernel_rfl, rem_calls w0 w L b x 0 f ms a (by omega) sx h⟩
theorem ok_raw {d : DS} {N S : Nat} (h : Ok d N S) : Ok d.raw.1 (N + 1) S := by
  have hd : Ok d.rawD N S := by
    unfold DS.rawD
    split
    · exact h.crash _ _
    · exact h
  unfold DS.raw
  simp only
  split
  · exact hd.mono (Nat.le_succ _) (Nat.le_refl _)
  · refine ⟨hd.rf, hd.rl, Nat.le_trans hd.nf (Nat.le_succ _), Nat.le_trans hd.nl (Nat.le_succ _), hd.tf, hd.tl, by have := hd.op0; simp only; omega, by have := hd.op1; simp only; omega, ?_, ?_, hd.nm⟩
    · have := hd.l0
      simp only
      split <;> omega
    · have := hd.l1
      simp only
      split <;> omega
theorem ok_change {d : DS} {N S : Nat} (h : Ok d N S) {c : Ch} (hc : Fit c) : Ok (d.change c).1 (N + 1) (S + c.size) := by
  have hr := ok_raw h
  have hr0 : d.raw.1.files.length ≤ N ∧ d.raw.1.lasting.length + d.raw.1.pend.length ≤ N := by
    have hd : Ok d.rawD N S := by
      unfold DS.rawD
      split
      · exact h.crash _ _
      · exact h
    unfold DS.raw
    simp only
    split <;> exact ⟨hd.nf, hd.nl⟩
  unfold DS.change
  simp only
  split
  · have h1 := c.go_length c.size d.raw.1.files
    have h2 := go_tot (Nat.le_refl c.size) hr.rf
    refine ⟨c.go_rising _ hr.rf, hr.rl, by simp only; omega, by simp only [List.length_append, List.length_singleton]; omega, by have := hr.tf; simp only; omega, ?_, hr.op0, hr.op1, hr.l0, hr.l1, fun e he => ?_⟩
    · simp only [wt_append, wt]
      have := hr.tl
      omega
    · rcases List.mem_append.1 he with he | he
      · exact hr.nm e he
      · rw [List.mem_singleton.1 he]; exact hc
  · exact hr.mono (Nat.le_refl _) (Nat.le_add_right _ _)
def Dh.T3 : Bool × List (List Nat × List Nat) := (true, [([], []), ([], []), ([1], [1]), ([2], [2]), ([3], [3]), ([], []), ([5], [5]), ([4, 6], [4, 6]), ([0, 0, 1, 2, 3, 4, 5, 6, 7], [0]), ([8, 0, 1, 2, 3, 4, 5, 6, 7], [8]), ([9, 7, 7, 0, 1, 2, 3, 4, 5, 6, 7], [7, 9])])
def Dh.B3 : List Nat := [0, 0, 2, 6, 14, 0, 32, 126, 255, 511, 1023]
theorem Dh.tab3 : rtab .any (opsOf Try.f29 3) = Dh.T3 := by kernel_rfl
theorem Dh.bits3 : waitsOk Dh.T3.2 Dh.B3 = true := by kernel_rfl
def Dh.T4 : Bool × List (List Nat × List Nat) := (true, [([], []), ([0], [0]), ([], []), ([2], [2]), ([3], [3]), ([4], [4]), ([], []), ([6], [6]), ([1, 5, 7], [1, 5, 7])])
def Dh.B4 : List Nat := [0, 1, 0, 4, 12, 28, 0, 64, 255]
theorem Dh.tab4 : rtab .any (opsOf Try.f29 4) = Dh.T4 := by kernel_rfl
theorem Dh.bits4 : waitsOk Dh.T4.2 Dh.B4 = true := by kernel_rfl
set_option maxHeartbeats 8000000 in
set_option maxRecDepth 100000 in
theorem change_calls (w0 w : World) (L : List Asn) (g : Nat) (d : DS) (N S : Nat) (c : Ch) (p : FC) (hN : N ≤ 99999) (hS : S ≤ 68719476736) (ok : Ok d N S) (hfit : Fit c) (h : Sat w0 w (Dk g d :: Cap1 p c :: L)) :
    Calls Try.prog 29 #[.pointer (some ⟨g, 0, none⟩), .agg #[.func p.1.1 #[] p.1.2, .bool p.2.1, .int .i64 p.2.2]] w fun e w' => e = .returned (.int .i64 (d.change c).2) ∧ Sat w0 w' (Dk g (d.change c).1 :: L) := by
  have H1 := Aside0.mk (show Sat w0 _ (Dk g d :: Blk w.heap.size #[.func p.1.1 #[] p.1.2, .bool p.2.1, .int .i64 p.2.2] 63 :: Cap1 p c :: L) from (h.newBlk #[.func p.1.1 #[] p.1.2, .bool p.2.1, .int .i64 p.2.2] 63).nth 1 rfl)
  have OK := Aside0.mk ok
  have OKR := Aside0.mk (ok_raw ok)
  have HFIT := Aside0.mk hfit
  clear h ok hfit
  go_enter Try.func29, Try.ntmps29
  go_upto_region 1 with (fail)
  generalize w.alloc (.cells #[.func p.1.1 #[] p.1.2, .bool p.2.1, .int .i64 p.2.2] 63) = w1 at H1 ⊢
  generalize w.heap.size = gc at H1 ⊢
  go_upto_region 2 with (first | (go_at_call 39; go_loud ((with_reducible refine (raw_calls w0 w1 _ g d N S (by omega) hS OK.out H1.out).mono ?_); rintro e w2 ⟨rfl, hs2⟩; have H1b := Aside0.mk hs2; clear hs2)))
  by_cases hr : d.raw.2 = 0
  rotate_left
  · have c0 : (d.raw.2 == 0) = false := beq_eq_false_iff_ne.2 hr
    have HR := Aside0.mk (show d.change c = d.raw from by unfold DS.change; simp only; rw [if_neg hr])
    clear hr
    go_wp2
    go_ret
    rw [HR.out]
    exact ⟨rfl, (((show Sat w0 w2 (Dk g d.raw.1 :: Blk gc _ 63 :: Cap1 p c :: L) from H1b.out).nth 1 rfl).tail.nth 1 rfl).tail⟩
  have c0 : (d.raw.2 == 0) = true := beq_iff_eq.2 hr
  obtain ⟨r, hrr⟩ : ∃ r, d.raw.1 = r := ⟨_, rfl⟩
  have HR := Aside0.mk (show d.change c = ({ r with pend := r.pend ++ [c], files := c.go c.size r.files }, 0) from by unfold DS.change; simp only; rw [if_pos hr, hrr])
  rw [hrr] at OKR H1b
  rw [hr]
  rw [hr] at c0
  clear hr hrr
  obtain ⟨fb, lb, A, cc, ps, hpl, hpc, h2⟩ := Dk.open H1b.out
  obtain ⟨nl, hnl⟩ : ∃ nl, r.pend.length = nl := ⟨_, rfl⟩
  rw [hnl] at h2 hpl
  have H2 := Aside0.mk (show Sat w0 w2 (Blk g (cellsOf r fb lb (.slice A nl cc)) 56 :: Store [(fb, r.files), (lb, r.lasting)] [] :: Row kFC 63 (.slice A nl cc) ps :: Caps ps r.pend :: Blk gc #[.func p.1.1 #[] p.1.2, .bool p.2.1, .int .i64 p.2.2] 63 :: Cap1 p c :: L) from h2)
  have x4 := h2.cell 4 (v := .slice A nl cc) rfl
  have z0 := (H2.out.nth 4 rfl).cell 0 rfl
  have z1 := (H2.out.nth 4 rfl).cell 1 rfl
  have z2 := (H2.out.nth 4 rfl).cell 2 rfl
  have hnN : nl ≤ 100000 := by have := OKR.out.nl; omega
  clear h2 H1b H1
  go_upto_region 3 with (fail)
  refine start_ (n := 11) (S := fun w' => w'.cell? ⟨g, 4, none⟩ = some (.slice A nl cc) ∧ w'.cell? ⟨gc, 0, none⟩ = some (.func p.1.1 #[] p.1.2) ∧ w'.cell? ⟨gc, 1, none⟩ = some (.bool p.2.1) ∧ w'.cell? ⟨gc, 2, none⟩ = some (.int .i64 p.2.2)) (ds := [7, 10]) #[false, false, false, false, false, false, false, false, false, false, false] (by kernel_rfl) rfl rfl ⟨x4, z0, z1, z2⟩ (fun hHeld => ?_)
  refine with_tabW Dh.tab3 Dh.bits3 (fun HT_ HW_ => ?_)
  refine pure_ (i := 0) (N := some 10) (v := ?_) (a' := ?_) #[true, false, false, false, false, false, false, false, false, false, false] rfl rfl (any_of HT_.out (by kernel_rfl)) (fun _ _ _ h => h) (Or.inl ⟨by rfl, ?_⟩) ?_ ?_
  rotate_left
  · intro w'
    go_simp
    with_reducible rfl
  rotate_left
  · simp only [Act.put, List.setIfInBounds_toArray, List.set_cons_zero, List.set_cons_succ, i64_w, i32_w]
    rfl
  refine pure_ (i := 1) (N := some 11) (v := ?_) (a' := ?_) #[true, true, false, false, false, false, false, false, false, false, false] rfl rfl (any_of HT_.out (by kernel_rfl)) (fun _ _ _ h => h) (Or.inl ⟨by rfl, ?_⟩) ?_ ?_
  rotate_left
  · intro w'
    go_simp
    with_reducible rfl
  rotate_left
  · simp only [Act.put, List.setIfInBounds_toArray, List.set_cons_zero, List.set_cons_succ, i64_w, i32_w]
    rfl
  refine pure_ (i := 2) (N := some 12) (v := ?_) (a' := ?_) #[true, true, true, false, false, false, false, false, false, false, false] rfl rfl (any_of HT_.out (by kernel_rfl)) (fun _ _ _ h => h) (Or.inl ⟨by rfl, ?_⟩) ?_ ?_
  rotate_left
  · intro w'
    go_simp
    with_reducible rfl
  rotate_left
  · simp only [Act.put, List.setIfInBounds_toArray, List.set_cons_zero, List.set_cons_succ, i64_w, i32_w]
    rfl
  refine pure_ (i := 3) (N := some 13) (v := ?_) (a' := ?_) #[true, true, true, true, false, false, false, false, false, false, false] rfl rfl (any_of HT_.out (by kernel_rfl)) (fun _ _ _ h => h) (Or.inl ⟨by rfl, ?_⟩) ?_ ?_
  rotate_left
  · intro w'
    go_simp
    with_reducible rfl
  rotate_left
  · simp only [Act.put, List.setIfInBounds_toArray, List.set_cons_zero, List.set_cons_succ, i64_w, i32_w]
    rfl
  refine take_ (i := 4) (N := some 14) (v := ?_) (a' := ?_) #[true, true, true, true, true, false, false, false, false, false, false] rfl rfl (take_ofW HT_.out HW_.out (by kernel_rfl)) (fun _ _ _ h => h) (Or.inl ⟨by rfl, ?_⟩) hHeld ?_ ?_
  rotate_left
  · rintro w' ⟨s0, s1, s2, s3⟩
    go_simp
    with_reducible rfl
  rotate_left
  · simp only [Act.put, List.setIfInBounds_toArray, List.set_cons_zero, List.set_cons_succ, i64_w, i32_w]
    rfl
  refine take_ (i := 5) (N := some 15) (v := ?_) (a' := ?_) #[true, true, true, true, true, true, false, false, false, false, false] rfl rfl (take_ofW HT_.out HW_.out (by kernel_rfl)) (fun _ _ _ h => h) (Or.inl ⟨by rfl, ?_⟩) hHeld ?_ ?_
  rotate_left
  · rintro w' ⟨s0, s1, s2, s3⟩
    go_simp
    with_reducible rfl
  rotate_left
  · simp only [Act.put, List.setIfInBounds_toArray, List.set_cons_zero, List.set_cons_succ, i64_w, i32_w]
    rfl
  refine one_ (i := 6) (N := some 16) #[true, true, true, true, true, true, true, false, false, false, false] rfl rfl (one_of HT_.out (by kernel_rfl)) (by decide) (fun K hK => ?_)
  refine value_ (w1 := ?_) (v := ?_) (by rfl) rfl ?_ ?_
  rotate_left 2
  · go_simp
    constructor
    · rfl
    · rfl
  have HA4 := Aside0.mk (H2.out.drew.alloc (.cells #[.func p.1.1 #[] p.1.2, .bool p.2.1, .int .i64 p.2.2] 63))
  refine hK.out _ _ ⟨(show _ from HA4.out.cell 4 rfl), (show _ from (HA4.out.nth 4 rfl).cell 0 rfl), (show _ from (HA4.out.nth 4 rfl).cell 1 rfl), (show _ from (HA4.out.nth 4 rfl).cell 2 rfl)⟩ (fun hHeld => ?_)
  clear hK K
  refine norm_ (a' := ?_) ?_ ?_
  rotate_left
  · show Act.put _ (some 16) _ = _
    simp only [Act.put, List.setIfInBounds_toArray, List.set_cons_zero, List.set_cons_succ, i64_w, i32_w]
    rfl
  refine last_ (i := 7) (N := some 17) #[true, true, true, true, true, true, true, true, false, false, false] rfl rfl (one_of HT_.out (by kernel_rfl)) (by decide) (fun K hK => ?_)
  refine Sat.appendStep kFC (by rfl) (.tmp 14) (.tmp 16) 54 63 (.agg #[.nilFunc, .bool false, .int .i64 0]) 24 rfl Try.underlying54 infoFC rfl (by decide) (by omega) (.slice A nl cc) ps p [.func p.1.1 #[] p.1.2, .bool p.2.1, .int .i64 p.2.2] rfl rfl (kFC_mkM _ _ _ p) (H2.out.drew.nth 2 rfl) (by omega) ?_
  intro v6 w5 hs5 hsz5
  obtain ⟨A6, c6, hv6, hc6, hC6⟩ := hs5.rowSlice
  subst hv6
  clear hsz5 hc6 hC6
  generalize (ps ++ [p]).length = n6 at hs5 ⊢
  have H5 := Aside0.mk (show Sat w0 w5 (Blk g (cellsOf r fb lb (.slice A nl cc)) 56 :: Row kFC 63 (.slice A6 n6 c6) (ps ++ [p]) :: Store [(fb, r.files), (lb, r.lasting)] [] :: Caps ps r.pend :: Blk gc #[.func p.1.1 #[] p.1.2, .bool p.2.1, .int .i64 p.2.2] 63 :: Cap1 p c :: L) from hs5.nth 1 rfl)
  clear hs5
  refine hK.out _ _ ?_
  clear hK K
  refine norm_ (a' := ?_) ?_ ?_
  rotate_left
  · show Act.put _ (some 17) _ = _
    simp only [Act.put, List.setIfInBounds_toArray, List.set_cons_zero, List.set_cons_succ, i64_w, i32_w]
    rfl
  refine pure_ (i := 8) (N := some 18) (v := ?_) (a' := ?_) #[true, true, true, true, true, true, true, true, true, false, false] rfl rfl (any_of HT_.out (by kernel_rfl)) (fun _ _ _ h => h) (Or.inl ⟨by rfl, ?_⟩) ?_ ?_
  rotate_left
  · intro w'
    go_simp
    with_reducible rfl
  rotate_left
  · simp only [Act.put, List.setIfInBounds_toArray, List.set_cons_zero, List.set_cons_succ, i64_w, i32_w]
    rfl
  refine pure_ (i := 9) (N := some 19) (v := ?_) (a' := ?_) #[true, true, true, true, true, true, true, true, true, true, false] rfl rfl (any_of HT_.out (by kernel_rfl)) (fun _ _ _ h => h) (Or.inl ⟨by rfl, ?_⟩) ?_ ?_
  rotate_left
  · intro w'
    go_simp
    with_reducible rfl
  rotate_left
  · simp only [Act.put, List.setIfInBounds_toArray, List.set_cons_zero, List.set_cons_succ, i64_w, i32_w]
    rfl
  refine last_ (i := 10) (N := none) #[true, true, true, true, true, true, true, true, true, true, true] rfl rfl (one_of HT_.out (by kernel_rfl)) (by decide) (fun K hK => ?_)
  have s4 := H5.out.cell 4 (v := .slice A nl cc) rfl
  have t4 := H5.out.free 4
  refine skip_ (w1 := ?_) (by rfl) rfl ?_ ?_
  rotate_left
  · go_simp
    rfl
  refine hK.out _ _ ?_
  clear hK K
  refine done_ (done_of HT_.out (by kernel_rfl)) ?_
  clear x4 z0 z1 z2
  have H6 := Aside0.mk (show Sat w0 _ (Store [(fb, r.files), (lb, r.lasting)] [] :: Blk g (cellsOf r fb lb (.slice A6 n6 c6)) 56 :: Row kFC 63 (.slice A6 n6 c6) (ps ++ [p]) :: Caps ps r.pend :: Blk gc #[.func p.1.1 #[] p.1.2, .bool p.2.1, .int .i64 p.2.2] 63 :: Cap1 p c :: L) from (H5.out.setBlk 4 (.slice A6 n6 c6)).nth 2 rfl)
  clear H5
  generalize w5.setCell ⟨g, 4, none⟩ (.slice A6 n6 c6) = w6 at H6 ⊢
  have y0 := (H6.out.nth 4 rfl).cell 0 rfl
  have y2 := (H6.out.nth 4 rfl).cell 2 rfl
  have x2 := (H6.out.nth 1 rfl).cell 2 (v := .map (some fb)) rfl
  have hlr : r.files.length < 1000000 := by have := OKR.out.nf; omega
  have htr : tot r.files ≤ 68719476736 := by have := OKR.out.tf; omega
  obtain ⟨k, fn, hk0, hk1, hk2, hk3, hdo⟩ := (do_calls w0 w6.drew _ fb r.files [(lb, r.lasting)] c p HFIT.out (Cap1.fn (H6.out.drew.nth 5 rfl)) hlr OKR.out.rf (by omega) H6.out.drew).2
  have HDO := Aside0.mk hdo
  clear hdo hlr
  go_upto_region 4 with (fail)
  refine start_ (n := 9) (S := fun w' => w'.cell? ⟨gc, 0, none⟩ = some (.func p.1.1 #[] p.1.2) ∧ w'.cell? ⟨gc, 2, none⟩ = some (.int .i64 p.2.2) ∧ w'.cell? ⟨g, 2, none⟩ = some (.map (some fb))) (ds := [8]) #[false, false, false, false, false, false, false, false, false] (by kernel_rfl) rfl rfl ⟨y0, y2, x2⟩ (fun hHeld => ?_)
  refine with_tabW Dh.tab4 Dh.bits4 (fun HT_ HW_ => ?_)
  refine pure_ (i := 0) (N := some 20) (v := ?_) (a' := ?_) #[true, false, false, false, false, false, false, false, false] rfl rfl (any_of HT_.out (by kernel_rfl)) (fun _ _ _ h => h) (Or.inl ⟨by rfl, ?_⟩) ?_ ?_
  rotate_left
  · intro w'
    go_simp
    with_reducible rfl
  rotate_left
  · simp only [Act.put, List.setIfInBounds_toArray, List.set_cons_zero, List.set_cons_succ, i64_w, i32_w]
    rfl
  refine pure_ (i := 2) (N := some 22) (v := ?_) (a' := ?_) #[true, false, true, false, false, false, false, false, false] rfl rfl (any_of HT_.out (by kernel_rfl)) (fun _ _ _ h => h) (Or.inl ⟨by rfl, ?_⟩) ?_ ?_
  rotate_left
  · intro w'
    go_simp
    with_reducible rfl
  rotate_left
  · simp only [Act.put, List.setIfInBounds_toArray, List.set_cons_zero, List.set_cons_succ, i64_w, i32_w]
    rfl
  refine pure_ (i := 3) (N := some 23) (v := ?_) (a' := ?_) #[true, false, true, true, false, false, false, false, false] rfl rfl (any_of HT_.out (by kernel_rfl)) (fun _ _ _ h => h) (Or.inl ⟨by rfl, ?_⟩) ?_ ?_
  rotate_left
  · intro w'
    go_simp
    with_reducible rfl
  rotate_left
  · simp only [Act.put, List.setIfInBounds_toArray, List.set_cons_zero, List.set_cons_succ, i64_w, i32_w]
    rfl
  refine pure_ (i := 4) (N := some 24) (v := ?_) (a' := ?_) #[true, false, true, true, true, false, false, false, false] rfl rfl (any_of HT_.out (by kernel_rfl)) (fun _ _ _ h => h) (Or.inl ⟨by rfl, ?_⟩) ?_ ?_
  rotate_left
  · intro w'
    go_simp
    with_reducible rfl
  rotate_left
  · simp only [Act.put, List.setIfInBounds_toArray, List.set_cons_zero, List.set_cons_succ, i64_w, i32_w]
    rfl
  refine pure_ (i := 6) (N := some 26) (v := ?_) (a' := ?_) #[true, false, true, true, true, false, true, false, false] rfl rfl (any_of HT_.out (by kernel_rfl)) (fun _ _ _ h => h) (Or.inl ⟨by rfl, ?_⟩) ?_ ?_
  rotate_left
  · intro w'
    go_simp
    with_reducible rfl
  rotate_left
  · simp only [Act.put, List.setIfInBounds_toArray, List.set_cons_zero, List.set_cons_succ, i64_w, i32_w]
    rfl
  refine take_ (i := 1) (N := some 21) (v := ?_) (a' := ?_) #[true, true, true, true, true, false, true, false, false] rfl rfl (take_ofW HT_.out HW_.out (by kernel_rfl)) (fun _ _ _ h => h) (Or.inl ⟨by rfl, ?_⟩) hHeld ?_ ?_
  rotate_left
  · rintro w' ⟨s0, s1, s2⟩
    go_simp
    with_reducible rfl
  rotate_left
  · simp only [Act.put, List.setIfInBounds_toArray, List.set_cons_zero, List.set_cons_succ, i64_w, i32_w]
    rfl
  refine take_ (i := 5) (N := some 25) (v := ?_) (a' := ?_) #[true, true, true, true, true, true, true, false, false] rfl rfl (take_ofW HT_.out HW_.out (by kernel_rfl)) (fun _ _ _ h => h) (Or.inl ⟨by rfl, ?_⟩) hHeld ?_ ?_
  rotate_left
  · rintro w' ⟨s0, s1, s2⟩
    go_simp
    with_reducible rfl
  rotate_left
  · simp only [Act.put, List.setIfInBounds_toArray, List.set_cons_zero, List.set_cons_succ, i64_w, i32_w]
    rfl
  refine take_ (i := 7) (N := some 27) (v := ?_) (a' := ?_) #[true, true, true, true, true, true, true, true, false] rfl rfl (take_ofW HT_.out HW_.out (by kernel_rfl)) (fun _ _ _ h => h) (Or.inl ⟨by rfl, ?_⟩) hHeld ?_ ?_
  rotate_left
  · rintro w' ⟨s0, s1, s2⟩
    go_simp
    with_reducible rfl
  rotate_left
  · simp only [Act.put, List.setIfInBounds_toArray, List.set_cons_zero, List.set_cons_succ, i64_w, i32_w]
    rfl
  refine last_ (i := 8) (N := some 28) #[true, true, true, true, true, true, true, true, true] rfl rfl (one_of HT_.out (by kernel_rfl)) (by decide) (fun K hK => ?_)
  refine goesV_ hk1 hk2 hk3 p.1.2 (#[.map (some fb), .int .i64 p.2.2] ++ p.1.2) (by rfl) rfl (by first | rfl | (rw [← hk0]; rfl)) rfl (by simp only [List.map_toArray, List.map_cons, List.map_nil]; rfl) ?_
  with_reducible refine HDO.out.mono ?_
  rintro e w7 ⟨rfl, hs7⟩
  refine ⟨_, rfl, ?_⟩
  have H7 := Aside0.mk hs7
  clear hs7
  refine hK.out _ _ ?_
  clear hK K
  refine norm_ (a' := ?_) ?_ ?_
  rotate_left
  · show Act.put _ (some 28) _ = _
    simp only [Act.put, List.setIfInBounds_toArray, List.set_cons_zero, List.set_cons_succ, i64_w, i32_w]
    rfl
  refine done_ (done_of HT_.out (by kernel_rfl)) ?_
  clear y0 y2 x2
  have x2 := (H7.out.nth 1 rfl).cell 2 (v := .map (some fb)) rfl
  have HFR := Aside0.mk (c.go_rising c.size OKR.out.rf)
  have hft := go_tot (Nat.le_refl c.size) OKR.out.rf
  have hcs : c.size ≤ 68719476736 := by
    cases c with
    | app a s => exact HFIT.out.2
    | ren a b => exact Nat.zero_le _
    | rem a => exact Nat.zero_le _
  have ht : tot (c.go c.size r.files) ≤ 1099511627776 := by omega
  clear hft hcs
  go_wp2_with (first | (go_at_call 42; go_loud (obtain ⟨F6, hm6⟩ := Store.mapAt H7.out (m := (fb, c.go c.size r.files)) (by simp); (with_reducible refine (sum_calls _ F6 fb _ HFR.out ht hm6).mono ?_); clear hm6; rintro e w8 ⟨rfl, hb8⟩; have h9 := (H7.out.step hb8).nth 1 rfl; have s1 := h9.cell 1 (v := .int .i64 (tot r.files : Nat)) rfl; have t1 := h9.free 1; have H9 := Aside0.mk (h9.setBlk 1 (.int .i64 (tot (c.go c.size r.files) : Nat))); clear h9 hb8)))
  go_ret
  rw [HR.out]
  refine ⟨rfl, ?_⟩
  have a1 := H9.out
  have a2 : Sat w0 _ (Blk g (cellsOf { r with pend := r.pend ++ [c], files := c.go c.size r.files } fb lb (.slice A6 n6 c6)) 56 :: Store [(fb, c.go c.size r.files), (lb, r.lasting)] [] :: Row kFC 63 (.slice A6 n6 c6) (ps ++ [p]) :: Caps ps r.pend :: Blk gc #[.func p.1.1 #[] p.1.2, .bool p.2.1, .int .i64 p.2.2] 63 :: Cap1 p c :: L) := a1
  have a3 := (a2.nth 4 rfl).tail
  have a4 := Caps.snoc ((a3.nth 4 rfl).nth 4 rfl)
  exact Dk.mk (fb := fb) (lb := lb) (pv := .slice A6 n6 c6) (ps := ps ++ [p]) (((a4.nth 3 rfl).nth 3 rfl).nth 3 rfl)
end Go.Proofs.Ytlngljhinboglaa.DkN
