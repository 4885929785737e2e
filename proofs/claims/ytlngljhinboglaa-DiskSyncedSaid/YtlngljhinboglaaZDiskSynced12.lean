/- What the document's Clone comes to.
   What one step of the law DiskSynced comes to, on both disks. -/
import Derived.Test.YtlngljhinboglaaZDiskSynced11
namespace Go.Proofs.Ytlngljhinboglaa.DkJ
open Go.RowKit Go.WideMaps Go.ChangeMaps Go.MapKept Go.Maps Go.Lib Go.Proofs.YtlngljhinboglaaW.PrintWords Go.Proofs.YtlngljhinboglaaW.PrintLast Go.Proofs.YtlngljhinboglaaW.PrintMore Go.Proofs.Ytlngljhinboglaa.QB Go.Proofs.Ytlngljhinboglaa.Sl Go.Proofs.Ytlngljhinboglaa.DkP Go.Proofs.Ytlngljhinboglaa.DkS Go.Proofs.Ytlngljhinboglaa.DkW Go.Proofs.Ytlngljhinboglaa.DkT Go.Proofs.Ytlngljhinboglaa.DkV Go.Proofs.Ytlngljhinboglaa.DkC Go.Proofs.Ytlngljhinboglaa.DkL Go.Proofs.Ytlngljhinboglaa.DkR Go.Proofs.Ytlngljhinboglaa.DkE Go.Proofs.Ytlngljhinboglaa.DkF Go.Proofs.Ytlngljhinboglaa.DkG Go.Proofs.Ytlngljhinboglaa.DkH Go.Proofs.Ytlngljhinboglaa.DkI
set_option linter.unusedVariables false
set_option linter.unusedSimpArgs false
section
variable {P : Program} {ops : Array Oper} {o : Oper} {a : Act} {Q : Exit → Act → World → Prop} {Kc : Act → World → Prop} {α : Type}
theorem Sat.appendRowsStep (d : Kd α) {w0 W : World} {L : List Asn} (hw : Region.wanted o (yielded ops a.tmps) = true) (s x : Operand) (t e : TypeId) (z : Value) (bytes : Nat)
    (ho : o.op = .call { callee := .builtin .append, args := #[s, x], argTypes := #[t, t] })
    (ht : P.underlying t = some (.slice e)) (hinfo : (P.info? e).map (fun i => (i.zero, i.size, i.bytes)) = some (some z, d.sz, bytes)) (hz : z.cells.size = d.sz) (hs0 : 0 < d.sz) (hb0 : 0 < bytes)
    (v : Value) (xs ys : List α) (A : Option Addr) (m c : Nat) (hs : a.eval s = v) (hx : a.eval x = .slice A m c)
    (HS : Sat w0 W (Row d e v xs :: L)) (HR : Kd.C d W A m ys) (hKM : ∀ x cs, d.K W x cs → d.M W w0.heap.size (fun _ => False) x cs) (hl : (xs.length + m) * bytes ≤ 140737488355328)
    (h : ∀ v1 w1, Sat w0 w1 (Row d e v1 (xs ++ ys) :: L) → W.heap.size ≤ w1.heap.size → Kc (a.put o.dst v1) w1) :
    if Region.wanted o (yielded ops a.tmps) = true then Oper.wp P o a W Kc Q else Kc (a.put o.dst undef) W := by
  obtain ⟨G, h1, h2, h3⟩ := HS.seps
  refine Kd.R_append_rows_step d w0.heap.size hw s x t e z bytes ho ht hinfo hz hs0 hb0 v xs ys A m c (fun k => G k ∨ W.heap.size ≤ k) (fun _ => False) hs hx
    (Kd.R_mono h1 (fun _ hk => .inl hk)) HR hKM (fun _ hk => hk.elim) (fun _ hk => .inr hk) HS.below HS.size hl ?_
  intro v1 w1 hR hB hg _
  exact h v1 w1 (Sat.grew HS.below h2 h3 hR hB hg (fun k hk => h1.1 k hk)) hg.size
end
def Ej.T3 : Bool × List (List Nat × List Nat) := (true, [([], []), ([0], [0]), ([], []), ([2], [2]), ([3], [3]), ([4], [4]), ([1, 5], [1, 5]), ([0, 1, 2, 3, 4, 5, 6], []), ([7, 6, 6, 0, 1, 2, 3, 4, 5, 6], [6, 7])])
def Ej.B3 : List Nat := [0, 1, 0, 4, 12, 28, 63, 127, 255]
theorem Ej.tab3 : rtab .any (opsOf Try.f22 3) = Ej.T3 := by kernel_rfl
theorem Ej.bits3 : waitsOk Ej.T3.2 Ej.B3 = true := by kernel_rfl
def Ej.T5 : Bool × List (List Nat × List Nat) := (true, [([], []), ([0], [0]), ([], []), ([2], [2]), ([3], [3]), ([4], [4]), ([1, 5], [1, 5]), ([0, 1, 2, 3, 4, 5, 6], []), ([7, 6, 6, 0, 1, 2, 3, 4, 5, 6], [6, 7])])
def Ej.B5 : List Nat := [0, 1, 0, 4, 12, 28, 63, 127, 255]
theorem Ej.tab5 : rtab .any (opsOf Try.f22 5) = Ej.T5 := by kernel_rfl
theorem Ej.bits5 : waitsOk Ej.T5.2 Ej.B5 = true := by kernel_rfl
section
variable {w0 w : World} {L : List Asn} {g : Nat} {d : DS} {N S : Nat} {r : Int}
set_option maxHeartbeats 8000000 in
set_option maxRecDepth 100000 in
theorem Clone_calls (hN : N ≤ 700000) (ok : Rok d N S) (h : Sat w0 w (Rk g d :: L)) :
    Calls Try.prog 22 #[.pointer (some ⟨g, 0, none⟩)] w fun e w' => ∃ ge, e = .returned (.pointer (some ⟨ge, 0, none⟩)) ∧ Sat w0 w' (Rk ge d :: Rk g d :: L) := by
  obtain ⟨A0, c0, A1, c1, _, _, h1⟩ := Rk.open h
  obtain ⟨fs, hfs⟩ : ∃ fs, ofFS d.lasting = fs := ⟨_, rfl⟩
  obtain ⟨cs, hcs⟩ : ∃ cs, d.pend.map chR = cs := ⟨_, rfl⟩
  have HFS := Aside0.mk hfs
  have HCS := Aside0.mk hcs
  have n0l : fs.length ≤ 700000 := by rw [← hfs, ofFS_length]; have := ok.ok.nl; omega
  have n1l : cs.length ≤ 700000 := by rw [← hcs, List.length_map]; have := ok.ok.nl; omega
  rw [hfs, hcs] at h1
  have hc0 := (h1.nth 1 rfl).rowC
  have hc1 := (h1.nth 2 rfl).rowC
  generalize hn0 : fs.length = n0 at h1 hc0 n0l
  generalize hn1 : cs.length = n1 at h1 hc1 n1l
  have HN0 := Aside0.mk hn0
  have HN1 := Aside0.mk hn1
  have HN3 := Aside0.mk (show (([] : List Fi).length + n0) * 32 ≤ 140737488355328 from by simp only [List.length_nil]; omega)
  have HN7 := Aside0.mk (show (([] : List S72).length + n1) * 40 ≤ 140737488355328 from by simp only [List.length_nil]; omega)
  have z0 := h1.cell 0 (v := .int .i64 d.room) rfl
  have z1 := h1.cell 1 (v := .slice A0 n0 c0) rfl
  have z2 := h1.cell 2 (v := .slice A1 n1 c1) rfl
  have z3 := h1.cell 3 (v := .int .i64 d.ops) rfl
  have z4 := h1.cell 4 (v := .bool false) rfl
  have z5 := h1.cell 5 (v := .int .i64 0) rfl
  have z6 := h1.cell 6 (v := .int .i64 0) rfl
  have z7 := h1.cell 7 (v := .int .i64 0) rfl
  have z8 := h1.cell 8 (v := .bool false) rfl
  have H1 := Aside0.mk (h1.newBlk #[.int .i64 0, .slice none 0 0, .slice none 0 0, .int .i64 0, .bool false, .int .i64 0, .int .i64 0, .int .i64 0, .bool false] tD)
  clear h ok h1 hc0 hc1 hfs hcs hn0 hn1
  go_enter Try.func22, Try.ntmps22
  go_upto_region 2 with (first | ((with_reducible refine gate_store (p := 3) rfl ?_); go_loud (refine wpList_store_row rfl tD (.tmp 3) (.tmp 6) rfl w.heap.size #[.int .i64 d.room, .slice A0 n0 c0, .slice A1 n1 c1, .int .i64 d.ops, .bool false, .int .i64 0, .int .i64 0, .int .i64 0, .bool false] rfl rfl tD _ H1.out.blk (by kernel_rfl) rfl (by simp [Value.oneCell']) ?_; have HZ := Aside0.mk (Sat.setRow H1.out #[.int .i64 d.room, .slice A0 n0 c0, .slice A1 n1 c1, .int .i64 d.ops, .bool false, .int .i64 0, .int .i64 0, .int .i64 0, .bool false]))))
  clear z0 z1 z2 z3 z4 z5 z6 z7 z8 H1
  generalize (w.alloc (.cells #[.int .i64 0, .slice none 0 0, .slice none 0 0, .int .i64 0, .bool false, .int .i64 0, .int .i64 0, .int .i64 0, .bool false] tD)).setRow w.heap.size #[.int .i64 d.room, .slice A0 n0 c0, .slice A1 n1 c1, .int .i64 d.ops, .bool false, .int .i64 0, .int .i64 0, .int .i64 0, .bool false] = w2 at HZ ⊢
  generalize w.heap.size = ge at HZ ⊢
  have y1 := HZ.out.free 1
  have y2 := HZ.out.cell 1 (v := .slice A0 n0 c0) rfl
  go_upto_region 3 with (fail)
  have H3a := Aside0.mk (HZ.out.setBlk 1 (.slice none 0 0))
  generalize w2.setCell ⟨ge, 1, none⟩ (.slice none 0 0) = w3 at H3a ⊢
  have H3 := Aside0.mk (Sat.nilRow kF tF (show Sat w0 w3 (Blk ge #[.int .i64 d.room, .slice none 0 0, .slice A1 n1 c1, .int .i64 d.ops, .bool false, .int .i64 0, .int .i64 0, .int .i64 0, .bool false] tD :: Blk g (rcells d (.slice A0 n0 c0) (.slice A1 n1 c1)) tD :: Row kF tF (.slice A0 n0 c0) fs :: Row kC tC (.slice A1 n1 c1) cs :: L) from H3a.out))
  have HC3 := Aside0.mk (show Kd.C kF w3.drew A0 n0 fs from by rw [← HN0.out]; exact (H3.out.drew.nth 3 rfl).rowC)
  have x0 := (H3.out.nth 1 rfl).cell 1 (v := .slice none 0 0) rfl
  have x1 := (H3.out.nth 2 rfl).cell 1 (v := .slice A0 n0 c0) rfl
  clear H3a HZ y1 y2
  refine start_ (n := 9) (S := fun w' => w'.cell? ⟨ge, 1, none⟩ = some (.slice none 0 0) ∧ w'.cell? ⟨g, 1, none⟩ = some (.slice A0 n0 c0)) (ds := [6, 8]) #[false, false, false, false, false, false, false, false, false] (by kernel_rfl) rfl rfl ⟨x0, x1⟩ (fun hHeld => ?_)
  refine with_tabW Ej.tab3 Ej.bits3 (fun HT_ HW_ => ?_)
  refine pure_ (i := 0) (N := some 8) (v := ?_) (a' := ?_) #[true, false, false, false, false, false, false, false, false] rfl rfl (any_of HT_.out (by kernel_rfl)) (fun _ _ _ h => h) (Or.inl ⟨by rfl, ?_⟩) ?_ ?_
  rotate_left
  · intro w'
    go_simp
    with_reducible rfl
  rotate_left
  · simp only [Act.put, List.setIfInBounds_toArray, List.set_cons_zero, List.set_cons_succ, i64_w, i32_w]
    rfl
  refine pure_ (i := 2) (N := some 10) (v := ?_) (a' := ?_) #[true, false, true, false, false, false, false, false, false] rfl rfl (any_of HT_.out (by kernel_rfl)) (fun _ _ _ h => h) (Or.inl ⟨by rfl, ?_⟩) ?_ ?_
  rotate_left
  · intro w'
    go_simp
    with_reducible rfl
  rotate_left
  · simp only [Act.put, List.setIfInBounds_toArray, List.set_cons_zero, List.set_cons_succ, i64_w, i32_w]
    rfl
  refine pure_ (i := 3) (N := some 11) (v := ?_) (a' := ?_) #[true, false, true, true, false, false, false, false, false] rfl rfl (any_of HT_.out (by kernel_rfl)) (fun _ _ _ h => h) (Or.inl ⟨by rfl, ?_⟩) ?_ ?_
  rotate_left
  · intro w'
    go_simp
    with_reducible rfl
  rotate_left
  · simp only [Act.put, List.setIfInBounds_toArray, List.set_cons_zero, List.set_cons_succ, i64_w, i32_w]
    rfl
  refine pure_ (i := 4) (N := some 12) (v := ?_) (a' := ?_) #[true, false, true, true, true, false, false, false, false] rfl rfl (any_of HT_.out (by kernel_rfl)) (fun _ _ _ h => h) (Or.inl ⟨by rfl, ?_⟩) ?_ ?_
  rotate_left
  · intro w'
    go_simp
    with_reducible rfl
  rotate_left
  · simp only [Act.put, List.setIfInBounds_toArray, List.set_cons_zero, List.set_cons_succ, i64_w, i32_w]
    rfl
  refine take_ (i := 1) (N := some 9) (v := ?_) (a' := ?_) #[true, true, true, true, true, false, false, false, false] rfl rfl (take_ofW HT_.out HW_.out (by kernel_rfl)) (fun _ _ _ h => h) (Or.inl ⟨by rfl, ?_⟩) hHeld ?_ ?_
  rotate_left
  · rintro w' ⟨s0, s1⟩
    go_simp
    with_reducible rfl
  rotate_left
  · simp only [Act.put, List.setIfInBounds_toArray, List.set_cons_zero, List.set_cons_succ, i64_w, i32_w]
    rfl
  refine take_ (i := 5) (N := some 13) (v := ?_) (a' := ?_) #[true, true, true, true, true, true, false, false, false] rfl rfl (take_ofW HT_.out HW_.out (by kernel_rfl)) (fun _ _ _ h => h) (Or.inl ⟨by rfl, ?_⟩) hHeld ?_ ?_
  rotate_left
  · rintro w' ⟨s0, s1⟩
    go_simp
    with_reducible rfl
  rotate_left
  · simp only [Act.put, List.setIfInBounds_toArray, List.set_cons_zero, List.set_cons_succ, i64_w, i32_w]
    rfl
  refine last_ (i := 6) (N := some 14) #[true, true, true, true, true, true, true, false, false] rfl rfl (one_of HT_.out (by kernel_rfl)) (by decide) (fun K hK => ?_)
  refine Sat.appendRowsStep kF (by rfl) (.tmp 9) (.tmp 13) 43 tF (.agg #[.string ⟨#[]⟩, .string ⟨#[]⟩]) 32 rfl Try.underlying43 info48 rfl (by decide) (by omega) (.slice none 0 0) [] fs A0 n0 c0 rfl rfl H3.out.drew HC3.out (fun _ _ h => h) HN3.out ?_
  intro v6 w5 hs5 hsz5
  obtain ⟨A6, c6, hv6, _, _⟩ := hs5.rowSlice
  subst hv6
  clear hsz5
  generalize hn6 : ([] ++ fs : List Fi).length = n6 at hs5 ⊢
  clear hn6
  have H5 := Aside0.mk hs5
  clear hs5
  refine hK.out _ _ ?_
  clear hK K
  refine norm_ (a' := ?_) ?_ ?_
  rotate_left
  · show Act.put _ (some 14) _ = _
    simp only [Act.put, List.setIfInBounds_toArray, List.set_cons_zero, List.set_cons_succ, i64_w, i32_w]
    rfl
  refine pure_ (i := 7) (N := some 15) (v := ?_) (a' := ?_) #[true, true, true, true, true, true, true, true, false] rfl rfl (any_of HT_.out (by kernel_rfl)) (fun _ _ _ h => h) (Or.inl ⟨by rfl, ?_⟩) ?_ ?_
  rotate_left
  · intro w'
    go_simp
    with_reducible rfl
  rotate_left
  · simp only [Act.put, List.setIfInBounds_toArray, List.set_cons_zero, List.set_cons_succ, i64_w, i32_w]
    rfl
  refine last_ (i := 8) (N := none) #[true, true, true, true, true, true, true, true, true] rfl rfl (one_of HT_.out (by kernel_rfl)) (by decide) (fun K hK => ?_)
  have s4 := (H5.out.nth 1 rfl).cell 1 (v := .slice none 0 0) rfl
  have t4 := (H5.out.nth 1 rfl).free 1
  refine skip_ (w1 := ?_) (by rfl) rfl ?_ ?_
  rotate_left
  · go_simp
    rfl
  refine hK.out _ _ ?_
  clear hK K
  refine done_ (done_of HT_.out (by kernel_rfl)) ?_
  have H6 := Aside0.mk (show Sat w0 _ (Blk ge #[.int .i64 d.room, .slice A6 n6 c6, .slice A1 n1 c1, .int .i64 d.ops, .bool false, .int .i64 0, .int .i64 0, .int .i64 0, .bool false] tD :: Row kF tF (.slice A6 n6 c6) ([] ++ fs) :: Blk g (rcells d (.slice A0 n0 c0) (.slice A1 n1 c1)) tD :: Row kF tF (.slice A0 n0 c0) fs :: Row kC tC (.slice A1 n1 c1) cs :: L) from (H5.out.nth 1 rfl).setBlk 1 (.slice A6 n6 c6))
  generalize w5.setCell ⟨ge, 1, none⟩ (.slice A6 n6 c6) = w6 at H6 ⊢
  have y1 := H6.out.free 2
  have y2 := H6.out.cell 2 (v := .slice A1 n1 c1) rfl
  go_upto_region 5 with (fail)
  have H7a := Aside0.mk (H6.out.setBlk 2 (.slice none 0 0))
  generalize w6.setCell ⟨ge, 2, none⟩ (.slice none 0 0) = w7 at H7a ⊢
  have H7 := Aside0.mk (Sat.nilRow kC tC (show Sat w0 w7 (Blk ge #[.int .i64 d.room, .slice A6 n6 c6, .slice none 0 0, .int .i64 d.ops, .bool false, .int .i64 0, .int .i64 0, .int .i64 0, .bool false] tD :: Row kF tF (.slice A6 n6 c6) ([] ++ fs) :: Blk g (rcells d (.slice A0 n0 c0) (.slice A1 n1 c1)) tD :: Row kF tF (.slice A0 n0 c0) fs :: Row kC tC (.slice A1 n1 c1) cs :: L) from H7a.out))
  have HC7 := Aside0.mk (show Kd.C kC w7.drew A1 n1 cs from by rw [← HN1.out]; exact (H7.out.drew.nth 5 rfl).rowC)
  have u0 := (H7.out.nth 1 rfl).cell 2 (v := .slice none 0 0) rfl
  have u1 := (H7.out.nth 3 rfl).cell 2 (v := .slice A1 n1 c1) rfl
  clear H7a H6 y1 y2
  refine start_ (n := 9) (S := fun w' => w'.cell? ⟨ge, 2, none⟩ = some (.slice none 0 0) ∧ w'.cell? ⟨g, 2, none⟩ = some (.slice A1 n1 c1)) (ds := [6, 8]) #[false, false, false, false, false, false, false, false, false] (by kernel_rfl) rfl rfl ⟨u0, u1⟩ (fun hHeld => ?_)
  refine with_tabW Ej.tab5 Ej.bits5 (fun HT_ HW_ => ?_)
  refine pure_ (i := 0) (N := some 17) (v := ?_) (a' := ?_) #[true, false, false, false, false, false, false, false, false] rfl rfl (any_of HT_.out (by kernel_rfl)) (fun _ _ _ h => h) (Or.inl ⟨by rfl, ?_⟩) ?_ ?_
  rotate_left
  · intro w'
    go_simp
    with_reducible rfl
  rotate_left
  · simp only [Act.put, List.setIfInBounds_toArray, List.set_cons_zero, List.set_cons_succ, i64_w, i32_w]
    rfl
  refine pure_ (i := 2) (N := some 19) (v := ?_) (a' := ?_) #[true, false, true, false, false, false, false, false, false] rfl rfl (any_of HT_.out (by kernel_rfl)) (fun _ _ _ h => h) (Or.inl ⟨by rfl, ?_⟩) ?_ ?_
  rotate_left
  · intro w'
    go_simp
    with_reducible rfl
  rotate_left
  · simp only [Act.put, List.setIfInBounds_toArray, List.set_cons_zero, List.set_cons_succ, i64_w, i32_w]
    rfl
  refine pure_ (i := 3) (N := some 20) (v := ?_) (a' := ?_) #[true, false, true, true, false, false, false, false, false] rfl rfl (any_of HT_.out (by kernel_rfl)) (fun _ _ _ h => h) (Or.inl ⟨by rfl, ?_⟩) ?_ ?_
  rotate_left
  · intro w'
    go_simp
    with_reducible rfl
  rotate_left
  · simp only [Act.put, List.setIfInBounds_toArray, List.set_cons_zero, List.set_cons_succ, i64_w, i32_w]
    rfl
  refine pure_ (i := 4) (N := some 21) (v := ?_) (a' := ?_) #[true, false, true, true, true, false, false, false, false] rfl rfl (any_of HT_.out (by kernel_rfl)) (fun _ _ _ h => h) (Or.inl ⟨by rfl, ?_⟩) ?_ ?_
  rotate_left
  · intro w'
    go_simp
    with_reducible rfl
  rotate_left
  · simp only [Act.put, List.setIfInBounds_toArray, List.set_cons_zero, List.set_cons_succ, i64_w, i32_w]
    rfl
  refine take_ (i := 1) (N := some 18) (v := ?_) (a' := ?_) #[true, true, true, true, true, false, false, false, false] rfl rfl (take_ofW HT_.out HW_.out (by kernel_rfl)) (fun _ _ _ h => h) (Or.inl ⟨by rfl, ?_⟩) hHeld ?_ ?_
  rotate_left
  · rintro w' ⟨s0, s1⟩
    go_simp
    with_reducible rfl
  rotate_left
  · simp only [Act.put, List.setIfInBounds_toArray, List.set_cons_zero, List.set_cons_succ, i64_w, i32_w]
    rfl
  refine take_ (i := 5) (N := some 22) (v := ?_) (a' := ?_) #[true, true, true, true, true, true, false, false, false] rfl rfl (take_ofW HT_.out HW_.out (by kernel_rfl)) (fun _ _ _ h => h) (Or.inl ⟨by rfl, ?_⟩) hHeld ?_ ?_
  rotate_left
  · rintro w' ⟨s0, s1⟩
    go_simp
    with_reducible rfl
  rotate_left
  · simp only [Act.put, List.setIfInBounds_toArray, List.set_cons_zero, List.set_cons_succ, i64_w, i32_w]
    rfl
  refine last_ (i := 6) (N := some 23) #[true, true, true, true, true, true, true, false, false] rfl rfl (one_of HT_.out (by kernel_rfl)) (by decide) (fun K hK => ?_)
  refine Sat.appendRowsStep kC (by rfl) (.tmp 18) (.tmp 22) 65 tC (.agg #[.int .i64 0, .string ⟨#[]⟩, .string ⟨#[]⟩]) 40 rfl Try.underlying65 infoC rfl (by decide) (by omega) (.slice none 0 0) [] cs A1 n1 c1 rfl rfl H7.out.drew HC7.out (fun _ _ h => h) HN7.out ?_
  intro v6 w9 hs5 hsz5
  obtain ⟨A9, c9, hv6, _, _⟩ := hs5.rowSlice
  subst hv6
  clear hsz5
  generalize hn6 : ([] ++ cs).length = n9 at hs5 ⊢
  clear hn6
  have H9 := Aside0.mk hs5
  clear hs5
  refine hK.out _ _ ?_
  clear hK K
  refine norm_ (a' := ?_) ?_ ?_
  rotate_left
  · show Act.put _ (some 23) _ = _
    simp only [Act.put, List.setIfInBounds_toArray, List.set_cons_zero, List.set_cons_succ, i64_w, i32_w]
    rfl
  refine pure_ (i := 7) (N := some 24) (v := ?_) (a' := ?_) #[true, true, true, true, true, true, true, true, false] rfl rfl (any_of HT_.out (by kernel_rfl)) (fun _ _ _ h => h) (Or.inl ⟨by rfl, ?_⟩) ?_ ?_
  rotate_left
  · intro w'
    go_simp
    with_reducible rfl
  rotate_left
  · simp only [Act.put, List.setIfInBounds_toArray, List.set_cons_zero, List.set_cons_succ, i64_w, i32_w]
    rfl
  refine last_ (i := 8) (N := none) #[true, true, true, true, true, true, true, true, true] rfl rfl (one_of HT_.out (by kernel_rfl)) (by decide) (fun K hK => ?_)
  have s4 := (H9.out.nth 1 rfl).cell 2 (v := .slice none 0 0) rfl
  have t4 := (H9.out.nth 1 rfl).free 2
  refine skip_ (w1 := ?_) (by rfl) rfl ?_ ?_
  rotate_left
  · go_simp
    rfl
  refine hK.out _ _ ?_
  clear hK K
  refine done_ (done_of HT_.out (by kernel_rfl)) ?_
  go_wp2
  go_ret
  have h10 := (H9.out.nth 1 rfl).setBlk 2 (.slice A9 n9 c9)
  rw [List.nil_append, List.nil_append, ← HFS.out, ← HCS.out] at h10
  have h11 := Rk.mk (d := d) (lv := .slice A6 n6 c6) (pv := .slice A9 n9 c9) ((h10.nth 2 rfl).nth 1 rfl)
  exact ⟨ge, rfl, (Rk.mk (d := d) (lv := .slice A0 n0 c0) (pv := .slice A1 n1 c1) (((h11.nth 3 rfl).nth 3 rfl).nth 3 rfl)).nth 1 rfl⟩
end
end Go.Proofs.Ytlngljhinboglaa.DkJ
namespace Go.Proofs.Ytlngljhinboglaa.DkK
open Go.RowKit Go.WideMaps Go.ChangeMaps Go.MapKept Go.Maps Go.Lib Go.Proofs.YtlngljhinboglaaW.PrintWords Go.Proofs.YtlngljhinboglaaW.PrintLast Go.Proofs.YtlngljhinboglaaW.PrintMore Go.Proofs.Ytlngljhinboglaa.QB Go.Proofs.Ytlngljhinboglaa.Sl Go.Proofs.Ytlngljhinboglaa.DkP Go.Proofs.Ytlngljhinboglaa.DkS Go.Proofs.Ytlngljhinboglaa.DkW Go.Proofs.Ytlngljhinboglaa.DkT Go.Proofs.Ytlngljhinboglaa.DkV Go.Proofs.Ytlngljhinboglaa.DkC Go.Proofs.Ytlngljhinboglaa.DkL Go.Proofs.Ytlngljhinboglaa.DkR Go.Proofs.Ytlngljhinboglaa.DkE Go.Proofs.Ytlngljhinboglaa.DkF Go.Proofs.Ytlngljhinboglaa.DkG Go.Proofs.Ytlngljhinboglaa.DkH
set_option linter.unusedVariables false
set_option linter.unusedSimpArgs false
def Ek.T3 : Bool × List (List Nat × List Nat) := (true, [([], []), ([], []), ([1], [1]), ([], []), ([3], [3]), ([0, 2, 4], [0, 2, 4]), ([], []), ([], []), ([7], [7]), ([], []), ([9], [9]), ([6, 8, 10, 5], [6, 8, 10]), ([5, 11], [5, 11]), ([12, 11, 0, 1, 2, 3, 4, 5, 6, 7, 8, 9, 10, 11, 12], [12])])
def Ek.B3 : List Nat := [0, 0, 2, 0, 8, 31, 0, 0, 128, 0, 512, 2047, 4095, 8191]
theorem Ek.tab3 : rtab .any (opsOf Try.f19 3) = Ek.T3 := by kernel_rfl
theorem Ek.bits3 : waitsOk Ek.T3.2 Ek.B3 = true := by kernel_rfl
def Ek.T5 : Bool × List (List Nat × List Nat) := (true, [([], []), ([], []), ([1], [1]), ([], []), ([3], [3]), ([0, 2, 4], [0, 2, 4]), ([], []), ([], []), ([7], [7]), ([], []), ([9], [9]), ([6, 8, 10, 5], [6, 8, 10]), ([5, 11], [5, 11]), ([12, 11, 0, 1, 2, 3, 4, 5, 6, 7, 8, 9, 10, 11, 12], [12])])
def Ek.B5 : List Nat := [0, 0, 2, 0, 8, 31, 0, 0, 128, 0, 512, 2047, 4095, 8191]
theorem Ek.tab5 : rtab .any (opsOf Try.f19 5) = Ek.T5 := by kernel_rfl
theorem Ek.bits5 : waitsOk Ek.T5.2 Ek.B5 = true := by kernel_rfl
def Ek.T7 : Bool × List (List Nat × List Nat) := (true, [([], []), ([], []), ([1], [1]), ([0, 2], [0, 2]), ([], []), ([], []), ([5], [5]), ([4, 6, 3], [4, 6]), ([3, 7], [3, 7]), ([8, 7, 0, 1, 2, 3, 4, 5, 6, 7, 8], [8])])
def Ek.B7 : List Nat := [0, 0, 2, 7, 0, 0, 32, 127, 255, 511]
theorem Ek.tab7 : rtab .any (opsOf Try.f19 7) = Ek.T7 := by kernel_rfl
theorem Ek.bits7 : waitsOk Ek.T7.2 Ek.B7 = true := by kernel_rfl
section
variable {w0 w : World} {L : List Asn} {gd gr : Nat} {d : DS} {N S : Nat} {r : Int}
set_option maxHeartbeats 8000000 in
set_option maxRecDepth 100000 in
theorem step_app (n keep part : Int) (a s : ByteArray) (hN : N ≤ 99998) (hS : S ≤ 68719476736) (hr0 : 0 ≤ r) (hr1 : r ≤ 68719476736) (ha : a.size ≤ maxLen) (hs : s.size ≤ 68719476736) (hl : Live r d N S) (ok : Rok d N S) (h : Sat w0 w (Dk gd d :: Rk gr d :: L)) :
    Calls Try.prog 19 #[.pointer (some ⟨gd, 0, none⟩), .pointer (some ⟨gr, 0, none⟩), .agg #[.int .i64 0, .int .i64 n, .int .i64 keep, .int .i64 part, .string a, .string s]] w fun e w' => e = .returned (.bool true) ∧ Sat w0 w' (Dk gd (d.append a s).1 :: Rk gr (d.append a s).1 :: L) := by
  have H := Aside0.mk h
  have OK := Aside0.mk ok
  have LV := Aside0.mk hl
  have HN := Aside0.mk (show N ≤ 99999 ∧ N ≤ 700000 from ⟨by omega, by omega⟩)
  have HS := Aside0.mk hS
  have HR0 := Aside0.mk hr0
  have HR1 := Aside0.mk hr1
  have HA := Aside0.mk ha
  have HSS := Aside0.mk hs
  clear h ok hl
  go_enter Try.func19, Try.ntmps19
  go_upto_region 3 with (first | ((with_reducible refine gate_dst (N := 5) rfl ?_); refine box_event ?hg (N := 5) ?hd (cs := #[.int .i64 0, .int .i64 n, .int .i64 keep, .int .i64 part, .string a, .string s]) (t := 34) ?hr ?_; (case hd => rfl); (case hg => rfl); (case hr => first | (go_simp; done) | (go_simp; rfl)); intro gb hgb w1 hbox hb; have H1 := Aside0.mk (Sat.boxed H.out hgb hbox hb); have z0 := H1.out.cell 0 (v := .int .i64 0) rfl; clear hb hbox hgb))
  have z4 := H1.out.cell 4 (v := .string a) rfl
  have z5 := H1.out.cell 5 (v := .string s) rfl
  refine start_ (n := 14) (S := fun w' => w'.cell? ⟨gb, 4, none⟩ = some (.string a) ∧ w'.cell? ⟨gb, 5, none⟩ = some (.string s)) (ds := []) #[false, false, false, false, false, false, false, false, false, false, false, false, false, false] (by kernel_rfl) rfl rfl ⟨z4, z5⟩ (fun hHeld => ?_)
  refine with_tabW Ek.tab3 Ek.bits3 (fun HT_ HW_ => ?_)
  refine pure_ (i := 0) (N := some 11) (v := ?_) (a' := ?_) #[true, false, false, false, false, false, false, false, false, false, false, false, false, false] rfl rfl (any_of HT_.out (by kernel_rfl)) (fun _ _ _ h => h) (Or.inl ⟨by rfl, ?_⟩) ?_ ?_
  rotate_left
  · intro w'
    go_simp
    with_reducible rfl
  rotate_left
  · simp only [Act.put, List.setIfInBounds_toArray, List.set_cons_zero, List.set_cons_succ, i64_w, i32_w]
    rfl
  refine pure_ (i := 1) (N := some 12) (v := ?_) (a' := ?_) #[true, true, false, false, false, false, false, false, false, false, false, false, false, false] rfl rfl (any_of HT_.out (by kernel_rfl)) (fun _ _ _ h => h) (Or.inl ⟨by rfl, ?_⟩) ?_ ?_
  rotate_left
  · intro w'
    go_simp
    with_reducible rfl
  rotate_left
  · simp only [Act.put, List.setIfInBounds_toArray, List.set_cons_zero, List.set_cons_succ, i64_w, i32_w]
    rfl
  refine pure_ (i := 3) (N := some 14) (v := ?_) (a' := ?_) #[true, true, false, true, false, false, false, false, false, false, false, false, false, false] rfl rfl (any_of HT_.out (by kernel_rfl)) (fun _ _ _ h => h) (Or.inl ⟨by rfl, ?_⟩) ?_ ?_
  rotate_left
  · intro w'
    go_simp
    with_reducible rfl
  rotate_left
  · simp only [Act.put, List.setIfInBounds_toArray, List.set_cons_zero, List.set_cons_succ, i64_w, i32_w]
    rfl
  refine pure_ (i := 6) (N := some 17) (v := ?_) (a' := ?_) #[true, true, false, true, false, false, true, false, false, false, false, false, false, false] rfl rfl (any_of HT_.out (by kernel_rfl)) (fun _ _ _ h => h) (Or.inl ⟨by rfl, ?_⟩) ?_ ?_
  rotate_left
  · intro w'
    go_simp
    with_reducible rfl
  rotate_left
  · simp only [Act.put, List.setIfInBounds_toArray, List.set_cons_zero, List.set_cons_succ, i64_w, i32_w]
    rfl
  refine pure_ (i := 7) (N := some 18) (v := ?_) (a' := ?_) #[true, true, false, true, false, false, true, true, false, false, false, false, false, false] rfl rfl (any_of HT_.out (by kernel_rfl)) (fun _ _ _ h => h) (Or.inl ⟨by rfl, ?_⟩) ?_ ?_
  rotate_left
  · intro w'
    go_simp
    with_reducible rfl
  rotate_left
  · simp only [Act.put, List.setIfInBounds_toArray, List.set_cons_zero, List.set_cons_succ, i64_w, i32_w]
    rfl
  refine pure_ (i := 9) (N := some 20) (v := ?_) (a' := ?_) #[true, true, false, true, false, false, true, true, false, true, false, false, false, false] rfl rfl (any_of HT_.out (by kernel_rfl)) (fun _ _ _ h => h) (Or.inl ⟨by rfl, ?_⟩) ?_ ?_
  rotate_left
  · intro w'
    go_simp
    with_reducible rfl
  rotate_left
  · simp only [Act.put, List.setIfInBounds_toArray, List.set_cons_zero, List.set_cons_succ, i64_w, i32_w]
    rfl
  refine take_ (i := 2) (N := some 13) (v := ?_) (a' := ?_) #[true, true, true, true, false, false, true, true, false, true, false, false, false, false] rfl rfl (take_ofW HT_.out HW_.out (by kernel_rfl)) (fun _ _ _ h => h) (Or.inl ⟨by rfl, ?_⟩) hHeld ?_ ?_
  rotate_left
  · rintro w' ⟨s0, s1⟩
    go_simp
    with_reducible rfl
  rotate_left
  · simp only [Act.put, List.setIfInBounds_toArray, List.set_cons_zero, List.set_cons_succ, i64_w, i32_w]
    rfl
  refine take_ (i := 4) (N := some 15) (v := ?_) (a' := ?_) #[true, true, true, true, true, false, true, true, false, true, false, false, false, false] rfl rfl (take_ofW HT_.out HW_.out (by kernel_rfl)) (fun _ _ _ h => h) (Or.inl ⟨by rfl, ?_⟩) hHeld ?_ ?_
  rotate_left
  · rintro w' ⟨s0, s1⟩
    go_simp
    with_reducible rfl
  rotate_left
  · simp only [Act.put, List.setIfInBounds_toArray, List.set_cons_zero, List.set_cons_succ, i64_w, i32_w]
    rfl
  refine take_ (i := 8) (N := some 19) (v := ?_) (a' := ?_) #[true, true, true, true, true, false, true, true, true, true, false, false, false, false] rfl rfl (take_ofW HT_.out HW_.out (by kernel_rfl)) (fun _ _ _ h => h) (Or.inl ⟨by rfl, ?_⟩) hHeld ?_ ?_
  rotate_left
  · rintro w' ⟨s0, s1⟩
    go_simp
    with_reducible rfl
  rotate_left
  · simp only [Act.put, List.setIfInBounds_toArray, List.set_cons_zero, List.set_cons_succ, i64_w, i32_w]
    rfl
  refine take_ (i := 10) (N := some 21) (v := ?_) (a' := ?_) #[true, true, true, true, true, false, true, true, true, true, true, false, false, false] rfl rfl (take_ofW HT_.out HW_.out (by kernel_rfl)) (fun _ _ _ h => h) (Or.inl ⟨by rfl, ?_⟩) hHeld ?_ ?_
  rotate_left
  · rintro w' ⟨s0, s1⟩
    go_simp
    with_reducible rfl
  rotate_left
  · simp only [Act.put, List.setIfInBounds_toArray, List.set_cons_zero, List.set_cons_succ, i64_w, i32_w]
    rfl
  refine one_ (i := 5) (N := some 16) #[true, true, true, true, true, true, true, true, true, true, true, false, false, false] rfl rfl (one_of HT_.out (by kernel_rfl)) (by decide) (fun K hK => ?_)
  refine goes_ Try.func10 (by kernel_rfl) rfl #[.pointer (some ⟨gd, 0, none⟩), .string a, .string s] (by rfl) rfl rfl (by simp only [List.map_toArray, List.map_cons, List.map_nil]; rfl) ?_
  with_reducible refine (DkO.Append_calls w0 _ _ gd d N S a s HN.out.1 HS.out HA.out HSS.out OK.out.ok (H1.out.drew.nth 1 rfl)).mono ?_
  rintro e w2 ⟨rfl, hs2⟩
  refine ⟨_, rfl, ?_⟩
  have H2 := Aside0.mk hs2
  clear hs2
  have p4 := (H2.out.nth 1 rfl).cell 4 (v := .string a) rfl
  have p5 := (H2.out.nth 1 rfl).cell 5 (v := .string s) rfl
  refine hK.out _ _ ⟨p4, p5⟩ (fun hHeld => ?_)
  clear hK K
  refine norm_ (a' := ?_) ?_ ?_
  rotate_left
  · show Act.put _ (some 16) _ = _
    simp only [Act.put, List.setIfInBounds_toArray, List.set_cons_zero, List.set_cons_succ, i64_w, i32_w]
    rfl
  refine one_ (i := 11) (N := some 22) #[true, true, true, true, true, true, true, true, true, true, true, true, false, false] rfl rfl (one_of HT_.out (by kernel_rfl)) (by decide) (fun K hK => ?_)
  refine goes_ Try.func33 (by kernel_rfl) rfl #[.pointer (some ⟨gr, 0, none⟩), .string a, .string s] (by rfl) rfl rfl (by simp only [List.map_toArray, List.map_cons, List.map_nil]; rfl) ?_
  with_reducible refine (DkI.Append_calls a s HN.out.2 HS.out HR0.out HR1.out HSS.out LV.out OK.out (H2.out.nth 2 rfl)).mono ?_
  rintro e w3 ⟨rfl, hs3⟩
  refine ⟨_, rfl, ?_⟩
  have H3 := Aside0.mk hs3
  clear hs3
  have q4 := (H3.out.nth 2 rfl).cell 4 (v := .string a) rfl
  have q5 := (H3.out.nth 2 rfl).cell 5 (v := .string s) rfl
  refine hK.out _ _ ⟨q4, q5⟩ (fun hHeld => ?_)
  clear hK K
  refine norm_ (a' := ?_) ?_ ?_
  rotate_left
  · show Act.put _ (some 22) _ = _
    simp only [Act.put, List.setIfInBounds_toArray, List.set_cons_zero, List.set_cons_succ, i64_w, i32_w]
    rfl
  refine pure_ (i := 12) (N := some 23) (v := ?_) (a' := ?_) #[true, true, true, true, true, true, true, true, true, true, true, true, true, false] rfl rfl (any_of HT_.out (by kernel_rfl)) (fun _ _ _ h => h) (Or.inl ⟨by rfl, ?_⟩) ?_ ?_
  rotate_left
  · intro w'
    go_simp
    with_reducible rfl
  rotate_left
  · simp only [Act.put, List.setIfInBounds_toArray, List.set_cons_zero, List.set_cons_succ, i64_w, i32_w]
    rfl
  refine pure_ (i := 13) (N := some 6) (v := ?_) (a' := ?_) #[true, true, true, true, true, true, true, true, true, true, true, true, true, true] rfl rfl (any_of HT_.out (by kernel_rfl)) (fun _ _ _ h => h) (Or.inl ⟨by rfl, ?_⟩) ?_ ?_
  rotate_left
  · intro w'
    go_simp
    with_reducible rfl
  rotate_left
  · simp only [Act.put, List.setIfInBounds_toArray, List.set_cons_zero, List.set_cons_succ, i64_w, i32_w]
    rfl
  refine done_ (done_of HT_.out (by kernel_rfl)) ?_
  go_wp2
  go_ret
  exact ⟨by simp, ((H3.out.nth 1 rfl).nth 2 rfl).tail.nth 0 rfl⟩
set_option maxHeartbeats 8000000 in
set_option maxRecDepth 100000 in
theorem step_ren (n keep part : Int) (a s : ByteArray) (hN : N ≤ 99998) (hS : S ≤ 68719476736) (ha : a.size ≤ maxLen) (hs : s.size ≤ maxLen) (hl : Live r d N S) (ok : Rok d N S) (h : Sat w0 w (Dk gd d :: Rk gr d :: L)) :
    Calls Try.prog 19 #[.pointer (some ⟨gd, 0, none⟩), .pointer (some ⟨gr, 0, none⟩), .agg #[.int .i64 1, .int .i64 n, .int .i64 keep, .int .i64 part, .string a, .string s]] w fun e w' => e = .returned (.bool true) ∧ Sat w0 w' (Dk gd (d.rename a s).1 :: Rk gr (d.rename a s).1 :: L) := by
  have H := Aside0.mk h
  have OK := Aside0.mk ok
  have LV := Aside0.mk hl
  have HN := Aside0.mk (show N ≤ 99999 ∧ N ≤ 700000 from ⟨by omega, by omega⟩)
  have HS := Aside0.mk hS
  have HA := Aside0.mk ha
  have HSM := Aside0.mk hs
  clear h ok hl
  go_enter Try.func19, Try.ntmps19
  go_upto_region 5 with (first | ((with_reducible refine gate_dst (N := 5) rfl ?_); refine box_event ?hg (N := 5) ?hd (cs := #[.int .i64 1, .int .i64 n, .int .i64 keep, .int .i64 part, .string a, .string s]) (t := 34) ?hr ?_; (case hd => rfl); (case hg => rfl); (case hr => first | (go_simp; done) | (go_simp; rfl)); intro gb hgb w1 hbox hb; have H1 := Aside0.mk (Sat.boxed H.out hgb hbox hb); have z0 := H1.out.cell 0 (v := .int .i64 1) rfl; clear hb hbox hgb))
  have z4 := H1.out.cell 4 (v := .string a) rfl
  have z5 := H1.out.cell 5 (v := .string s) rfl
  refine start_ (n := 14) (S := fun w' => w'.cell? ⟨gb, 4, none⟩ = some (.string a) ∧ w'.cell? ⟨gb, 5, none⟩ = some (.string s)) (ds := []) #[false, false, false, false, false, false, false, false, false, false, false, false, false, false] (by kernel_rfl) rfl rfl ⟨z4, z5⟩ (fun hHeld => ?_)
  refine with_tabW Ek.tab5 Ek.bits5 (fun HT_ HW_ => ?_)
  refine pure_ (i := 0) (N := some 26) (v := ?_) (a' := ?_) #[true, false, false, false, false, false, false, false, false, false, false, false, false, false] rfl rfl (any_of HT_.out (by kernel_rfl)) (fun _ _ _ h => h) (Or.inl ⟨by rfl, ?_⟩) ?_ ?_
  rotate_left
  · intro w'
    go_simp
    with_reducible rfl
  rotate_left
  · simp only [Act.put, List.setIfInBounds_toArray, List.set_cons_zero, List.set_cons_succ, i64_w, i32_w]
    rfl
  refine pure_ (i := 1) (N := some 27) (v := ?_) (a' := ?_) #[true, true, false, false, false, false, false, false, false, false, false, false, false, false] rfl rfl (any_of HT_.out (by kernel_rfl)) (fun _ _ _ h => h) (Or.inl ⟨by rfl, ?_⟩) ?_ ?_
  rotate_left
  · intro w'
    go_simp
    with_reducible rfl
  rotate_left
  · simp only [Act.put, List.setIfInBounds_toArray, List.set_cons_zero, List.set_cons_succ, i64_w, i32_w]
    rfl
  refine pure_ (i := 3) (N := some 29) (v := ?_) (a' := ?_) #[true, true, false, true, false, false, false, false, false, false, false, false, false, false] rfl rfl (any_of HT_.out (by kernel_rfl)) (fun _ _ _ h => h) (Or.inl ⟨by rfl, ?_⟩) ?_ ?_
  rotate_left
  · intro w'
    go_simp
    with_reducible rfl
  rotate_left
  · simp only [Act.put, List.setIfInBounds_toArray, List.set_cons_zero, List.set_cons_succ, i64_w, i32_w]
    rfl
  refine pure_ (i := 6) (N := some 32) (v := ?_) (a' := ?_) #[true, true, false, true, false, false, true, false, false, false, false, false, false, false] rfl rfl (any_of HT_.out (by kernel_rfl)) (fun _ _ _ h => h) (Or.inl ⟨by rfl, ?_⟩) ?_ ?_
  rotate_left
  · intro w'
    go_simp
    with_reducible rfl
  rotate_left
  · simp only [Act.put, List.setIfInBounds_toArray, List.set_cons_zero, List.set_cons_succ, i64_w, i32_w]
    rfl
  refine pure_ (i := 7) (N := some 33) (v := ?_) (a' := ?_) #[true, true, false, true, false, false, true, true, false, false, false, false, false, false] rfl rfl (any_of HT_.out (by kernel_rfl)) (fun _ _ _ h => h) (Or.inl ⟨by rfl, ?_⟩) ?_ ?_
  rotate_left
  · intro w'
    go_simp
    with_reducible rfl
  rotate_left
  · simp only [Act.put, List.setIfInBounds_toArray, List.set_cons_zero, List.set_cons_succ, i64_w, i32_w]
    rfl
  refine pure_ (i := 9) (N := some 35) (v := ?_) (a' := ?_) #[true, true, false, true, false, false, true, true, false, true, false, false, false, false] rfl rfl (any_of HT_.out (by kernel_rfl)) (fun _ _ _ h => h) (Or.inl ⟨by rfl, ?_⟩) ?_ ?_
  rotate_left
  · intro w'
    go_simp
    with_reducible rfl
  rotate_left
  · simp only [Act.put, List.setIfInBounds_toArray, List.set_cons_zero, List.set_cons_succ, i64_w, i32_w]
    rfl
  refine take_ (i := 2) (N := some 28) (v := ?_) (a' := ?_) #[true, true, true, true, false, false, true, true, false, true, false, false, false, false] rfl rfl (take_ofW HT_.out HW_.out (by kernel_rfl)) (fun _ _ _ h => h) (Or.inl ⟨by rfl, ?_⟩) hHeld ?_ ?_
  rotate_left
  · rintro w' ⟨s0, s1⟩
    go_simp
    with_reducible rfl
  rotate_left
  · simp only [Act.put, List.setIfInBounds_toArray, List.set_cons_zero, List.set_cons_succ, i64_w, i32_w]
    rfl
  refine take_ (i := 4) (N := some 30) (v := ?_) (a' := ?_) #[true, true, true, true, true, false, true, true, false, true, false, false, false, false] rfl rfl (take_ofW HT_.out HW_.out (by kernel_rfl)) (fun _ _ _ h => h) (Or.inl ⟨by rfl, ?_⟩) hHeld ?_ ?_
  rotate_left
  · rintro w' ⟨s0, s1⟩
    go_simp
    with_reducible rfl
  rotate_left
  · simp only [Act.put, List.setIfInBounds_toArray, List.set_cons_zero, List.set_cons_succ, i64_w, i32_w]
    rfl
  refine take_ (i := 8) (N := some 34) (v := ?_) (a' := ?_) #[true, true, true, true, true, false, true, true, true, true, false, false, false, false] rfl rfl (take_ofW HT_.out HW_.out (by kernel_rfl)) (fun _ _ _ h => h) (Or.inl ⟨by rfl, ?_⟩) hHeld ?_ ?_
  rotate_left
  · rintro w' ⟨s0, s1⟩
    go_simp
    with_reducible rfl
  rotate_left
  · simp only [Act.put, List.setIfInBounds_toArray, List.set_cons_zero, List.set_cons_succ, i64_w, i32_w]
    rfl
  refine take_ (i := 10) (N := some 36) (v := ?_) (a' := ?_) #[true, true, true, true, true, false, true, true, true, true, true, false, false, false] rfl rfl (take_ofW HT_.out HW_.out (by kernel_rfl)) (fun _ _ _ h => h) (Or.inl ⟨by rfl, ?_⟩) hHeld ?_ ?_
  rotate_left
  · rintro w' ⟨s0, s1⟩
    go_simp
    with_reducible rfl
  rotate_left
  · simp only [Act.put, List.setIfInBounds_toArray, List.set_cons_zero, List.set_cons_succ, i64_w, i32_w]
    rfl
  refine one_ (i := 5) (N := some 31) #[true, true, true, true, true, true, true, true, true, true, true, false, false, false] rfl rfl (one_of HT_.out (by kernel_rfl)) (by decide) (fun K hK => ?_)
  refine goes_ Try.func27 (by kernel_rfl) rfl #[.pointer (some ⟨gd, 0, none⟩), .string a, .string s] (by rfl) rfl rfl (by simp only [List.map_toArray, List.map_cons, List.map_nil]; rfl) ?_
  with_reducible refine (DkO.Rename_calls w0 _ _ gd d N S a s HN.out.1 HS.out HA.out HSM.out OK.out.ok (H1.out.drew.nth 1 rfl)).mono ?_
  rintro e w2 ⟨rfl, hs2⟩
  refine ⟨_, rfl, ?_⟩
  have H2 := Aside0.mk hs2
  clear hs2
  have p4 := (H2.out.nth 1 rfl).cell 4 (v := .string a) rfl
  have p5 := (H2.out.nth 1 rfl).cell 5 (v := .string s) rfl
  refine hK.out _ _ ⟨p4, p5⟩ (fun hHeld => ?_)
  clear hK K
  refine norm_ (a' := ?_) ?_ ?_
  rotate_left
  · show Act.put _ (some 31) _ = _
    simp only [Act.put, List.setIfInBounds_toArray, List.set_cons_zero, List.set_cons_succ, i64_w, i32_w]
    rfl
  refine one_ (i := 11) (N := some 37) #[true, true, true, true, true, true, true, true, true, true, true, true, false, false] rfl rfl (one_of HT_.out (by kernel_rfl)) (by decide) (fun K hK => ?_)
  refine goes_ Try.func34 (by kernel_rfl) rfl #[.pointer (some ⟨gr, 0, none⟩), .string a, .string s] (by rfl) rfl rfl (by simp only [List.map_toArray, List.map_cons, List.map_nil]; rfl) ?_
  with_reducible refine (DkI.Rename_calls a s HN.out.2 HS.out LV.out OK.out (H2.out.nth 2 rfl)).mono ?_
  rintro e w3 ⟨rfl, hs3⟩
  refine ⟨_, rfl, ?_⟩
  have H3 := Aside0.mk hs3
  clear hs3
  have q4 := (H3.out.nth 2 rfl).cell 4 (v := .string a) rfl
  have q5 := (H3.out.nth 2 rfl).cell 5 (v := .string s) rfl
  refine hK.out _ _ ⟨q4, q5⟩ (fun hHeld => ?_)
  clear hK K
  refine norm_ (a' := ?_) ?_ ?_
  rotate_left
  · show Act.put _ (some 37) _ = _
    simp only [Act.put, List.setIfInBounds_toArray, List.set_cons_zero, List.set_cons_succ, i64_w, i32_w]
    rfl
  refine pure_ (i := 12) (N := some 38) (v := ?_) (a' := ?_) #[true, true, true, true, true, true, true, true, true, true, true, true, true, false] rfl rfl (any_of HT_.out (by kernel_rfl)) (fun _ _ _ h => h) (Or.inl ⟨by rfl, ?_⟩) ?_ ?_
  rotate_left
  · intro w'
    go_simp
    with_reducible rfl
  rotate_left
  · simp only [Act.put, List.setIfInBounds_toArray, List.set_cons_zero, List.set_cons_succ, i64_w, i32_w]
    rfl
  refine pure_ (i := 13) (N := some 6) (v := ?_) (a' := ?_) #[true, true, true, true, true, true, true, true, true, true, true, true, true, true] rfl rfl (any_of HT_.out (by kernel_rfl)) (fun _ _ _ h => h) (Or.inl ⟨by rfl, ?_⟩) ?_ ?_
  rotate_left
  · intro w'
    go_simp
    with_reducible rfl
  rotate_left
  · simp only [Act.put, List.setIfInBounds_toArray, List.set_cons_zero, List.set_cons_succ, i64_w, i32_w]
    rfl
  refine done_ (done_of HT_.out (by kernel_rfl)) ?_
  go_wp2
  go_ret
  exact ⟨by simp, ((H3.out.nth 1 rfl).nth 2 rfl).tail.nth 0 rfl⟩
set_option maxHeartbeats 8000000 in
set_option maxRecDepth 100000 in
theorem step_rem (n keep part : Int) (a s : ByteArray) (hN : N ≤ 99998) (hS : S ≤ 68719476736) (ha : a.size ≤ maxLen) (hl : Live r d N S) (ok : Rok d N S) (h : Sat w0 w (Dk gd d :: Rk gr d :: L)) :
    Calls Try.prog 19 #[.pointer (some ⟨gd, 0, none⟩), .pointer (some ⟨gr, 0, none⟩), .agg #[.int .i64 2, .int .i64 n, .int .i64 keep, .int .i64 part, .string a, .string s]] w fun e w' => e = .returned (.bool true) ∧ Sat w0 w' (Dk gd (d.remove a).1 :: Rk gr (d.remove a).1 :: L) := by
  have H := Aside0.mk h
  have OK := Aside0.mk ok
  have LV := Aside0.mk hl
  have HN := Aside0.mk (show N ≤ 99999 ∧ N ≤ 700000 from ⟨by omega, by omega⟩)
  have HS := Aside0.mk hS
  have HA := Aside0.mk ha
  clear h ok hl
  go_enter Try.func19, Try.ntmps19
  go_upto_region 7 with (first | ((with_reducible refine gate_dst (N := 5) rfl ?_); refine box_event ?hg (N := 5) ?hd (cs := #[.int .i64 2, .int .i64 n, .int .i64 keep, .int .i64 part, .string a, .string s]) (t := 34) ?hr ?_; (case hd => rfl); (case hg => rfl); (case hr => first | (go_simp; done) | (go_simp; rfl)); intro gb hgb w1 hbox hb; have H1 := Aside0.mk (Sat.boxed H.out hgb hbox hb); have z0 := H1.out.cell 0 (v := .int .i64 2) rfl; clear hb hbox hgb))
  have z4 := H1.out.cell 4 (v := .string a) rfl
  refine start_ (n := 10) (S := fun w' => w'.cell? ⟨gb, 4, none⟩ = some (.string a)) (ds := []) #[false, false, false, false, false, false, false, false, false, false] (by kernel_rfl) rfl rfl (z4) (fun hHeld => ?_)
  refine with_tabW Ek.tab7 Ek.bits7 (fun HT_ HW_ => ?_)
  refine pure_ (i := 0) (N := some 41) (v := ?_) (a' := ?_) #[true, false, false, false, false, false, false, false, false, false] rfl rfl (any_of HT_.out (by kernel_rfl)) (fun _ _ _ h => h) (Or.inl ⟨by rfl, ?_⟩) ?_ ?_
  rotate_left
  · intro w'
    go_simp
    with_reducible rfl
  rotate_left
  · simp only [Act.put, List.setIfInBounds_toArray, List.set_cons_zero, List.set_cons_succ, i64_w, i32_w]
    rfl
  refine pure_ (i := 1) (N := some 42) (v := ?_) (a' := ?_) #[true, true, false, false, false, false, false, false, false, false] rfl rfl (any_of HT_.out (by kernel_rfl)) (fun _ _ _ h => h) (Or.inl ⟨by rfl, ?_⟩) ?_ ?_
  rotate_left
  · intro w'
    go_simp
    with_reducible rfl
  rotate_left
  · simp only [Act.put, List.setIfInBounds_toArray, List.set_cons_zero, List.set_cons_succ, i64_w, i32_w]
    rfl
  refine pure_ (i := 4) (N := some 45) (v := ?_) (a' := ?_) #[true, true, false, false, true, false, false, false, false, false] rfl rfl (any_of HT_.out (by kernel_rfl)) (fun _ _ _ h => h) (Or.inl ⟨by rfl, ?_⟩) ?_ ?_
  rotate_left
  · intro w'
    go_simp
    with_reducible rfl
  rotate_left
  · simp only [Act.put, List.setIfInBounds_toArray, List.set_cons_zero, List.set_cons_succ, i64_w, i32_w]
    rfl
  refine pure_ (i := 5) (N := some 46) (v := ?_) (a' := ?_) #[true, true, false, false, true, true, false, false, false, false] rfl rfl (any_of HT_.out (by kernel_rfl)) (fun _ _ _ h => h) (Or.inl ⟨by rfl, ?_⟩) ?_ ?_
  rotate_left
  · intro w'
    go_simp
    with_reducible rfl
  rotate_left
  · simp only [Act.put, List.setIfInBounds_toArray, List.set_cons_zero, List.set_cons_succ, i64_w, i32_w]
    rfl
  refine take_ (i := 2) (N := some 43) (v := ?_) (a' := ?_) #[true, true, true, false, true, true, false, false, false, false] rfl rfl (take_ofW HT_.out HW_.out (by kernel_rfl)) (fun _ _ _ h => h) (Or.inl ⟨by rfl, ?_⟩) hHeld ?_ ?_
  rotate_left
  · intro w' s0
    go_simp
    with_reducible rfl
  rotate_left
  · simp only [Act.put, List.setIfInBounds_toArray, List.set_cons_zero, List.set_cons_succ, i64_w, i32_w]
    rfl
  refine take_ (i := 6) (N := some 47) (v := ?_) (a' := ?_) #[true, true, true, false, true, true, true, false, false, false] rfl rfl (take_ofW HT_.out HW_.out (by kernel_rfl)) (fun _ _ _ h => h) (Or.inl ⟨by rfl, ?_⟩) hHeld ?_ ?_
  rotate_left
  · intro w' s0
    go_simp
    with_reducible rfl
  rotate_left
  · simp only [Act.put, List.setIfInBounds_toArray, List.set_cons_zero, List.set_cons_succ, i64_w, i32_w]
    rfl
  refine one_ (i := 3) (N := some 44) #[true, true, true, true, true, true, true, false, false, false] rfl rfl (one_of HT_.out (by kernel_rfl)) (by decide) (fun K hK => ?_)
  refine goes_ Try.func17 (by kernel_rfl) rfl #[.pointer (some ⟨gd, 0, none⟩), .string a] (by rfl) rfl rfl (by simp only [List.map_toArray, List.map_cons, List.map_nil]; rfl) ?_
  with_reducible refine (DkO.Remove_calls w0 _ _ gd d N S a HN.out.1 HS.out HA.out OK.out.ok (H1.out.drew.nth 1 rfl)).mono ?_
  rintro e w2 ⟨rfl, hs2⟩
  refine ⟨_, rfl, ?_⟩
  have H2 := Aside0.mk hs2
  clear hs2
  have p4 := (H2.out.nth 1 rfl).cell 4 (v := .string a) rfl
  refine hK.out _ _ (p4) (fun hHeld => ?_)
  clear hK K
  refine norm_ (a' := ?_) ?_ ?_
  rotate_left
  · show Act.put _ (some 44) _ = _
    simp only [Act.put, List.setIfInBounds_toArray, List.set_cons_zero, List.set_cons_succ, i64_w, i32_w]
    rfl
  refine one_ (i := 7) (N := some 48) #[true, true, true, true, true, true, true, true, false, false] rfl rfl (one_of HT_.out (by kernel_rfl)) (by decide) (fun K hK => ?_)
  refine goes_ Try.func35 (by kernel_rfl) rfl #[.pointer (some ⟨gr, 0, none⟩), .string a] (by rfl) rfl rfl (by simp only [List.map_toArray, List.map_cons, List.map_nil]; rfl) ?_
  with_reducible refine (DkI.Remove_calls a HN.out.2 HS.out LV.out OK.out (H2.out.nth 2 rfl)).mono ?_
  rintro e w3 ⟨rfl, hs3⟩
  refine ⟨_, rfl, ?_⟩
  have H3 := Aside0.mk hs3
  clear hs3
  have q4 := (H3.out.nth 2 rfl).cell 4 (v := .string a) rfl
  refine hK.out _ _ (q4) (fun hHeld => ?_)
  clear hK K
  refine norm_ (a' := ?_) ?_ ?_
  rotate_left
  · show Act.put _ (some 48) _ = _
    simp only [Act.put, List.setIfInBounds_toArray, List.set_cons_zero, List.set_cons_succ, i64_w, i32_w]
    rfl
  refine pure_ (i := 8) (N := some 49) (v := ?_) (a' := ?_) #[true, true, true, true, true, true, true, true, true, false] rfl rfl (any_of HT_.out (by kernel_rfl)) (fun _ _ _ h => h) (Or.inl ⟨by rfl, ?_⟩) ?_ ?_
  rotate_left
  · intro w'
    go_simp
    with_reducible rfl
  rotate_left
  · simp only [Act.put, List.setIfInBounds_toArray, List.set_cons_zero, List.set_cons_succ, i64_w, i32_w]
    rfl
  refine pure_ (i := 9) (N := some 6) (v := ?_) (a' := ?_) #[true, true, true, true, true, true, true, true, true, true] rfl rfl (any_of HT_.out (by kernel_rfl)) (fun _ _ _ h => h) (Or.inl ⟨by rfl, ?_⟩) ?_ ?_
  rotate_left
  · intro w'
    go_simp
    with_reducible rfl
  rotate_left
  · simp only [Act.put, List.setIfInBounds_toArray, List.set_cons_zero, List.set_cons_succ, i64_w, i32_w]
    rfl
  refine done_ (done_of HT_.out (by kernel_rfl)) ?_
  go_wp2
  go_ret
  exact ⟨by simp, ((H3.out.nth 1 rfl).nth 2 rfl).tail.nth 0 rfl⟩
set_option maxHeartbeats 8000000 in
set_option maxRecDepth 100000 in
theorem step_sync (n keep part : Int) (a s : ByteArray) (hN : N ≤ 99998) (hS : S ≤ 68719476736) (hl : Live r d N S) (ok : Rok d N S) (h : Sat w0 w (Dk gd d :: Rk gr d :: L)) :
    Calls Try.prog 19 #[.pointer (some ⟨gd, 0, none⟩), .pointer (some ⟨gr, 0, none⟩), .agg #[.int .i64 3, .int .i64 n, .int .i64 keep, .int .i64 part, .string a, .string s]] w fun e w' => e = .returned (.bool true) ∧ Sat w0 w' (Dk gd (d.sync).1 :: Rk gr (d.sync).1 :: L) := by
  have H := Aside0.mk h
  have OK := Aside0.mk ok
  have LV := Aside0.mk hl
  have HN := Aside0.mk (show N ≤ 99999 ∧ N ≤ 700000 from ⟨by omega, by omega⟩)
  have HS := Aside0.mk hS
  have HY := Aside0.mk (show d.sync.2 = 0 from by rw [hl.sync])
  clear h ok hl
  go_enter Try.func19, Try.ntmps19
  go_wp2_with (first
    | ((with_reducible refine gate_dst (N := 5) rfl ?_); refine box_event ?hg (N := 5) ?hd (cs := #[.int .i64 3, .int .i64 n, .int .i64 keep, .int .i64 part, .string a, .string s]) (t := 34) ?hr ?_; (case hd => rfl); (case hg => rfl); (case hr => first | (go_simp; done) | (go_simp; rfl)); intro gb hgb w1 hbox hb; have H1 := Aside0.mk (Sat.boxed H.out hgb hbox hb); have z0 := H1.out.cell 0 (v := .int .i64 3) rfl; clear hb hbox hgb)
    | (go_at_call 20; go_loud ((with_reducible refine (DkO.Sync_calls w0 _ _ gd d N S HN.out.1 HS.out OK.out.ok (H1.out.nth 1 rfl)).mono ?_); rintro e w2 ⟨rfl, hs2⟩; rw [HY.out]; have H2 := Aside0.mk hs2; clear hs2))
    | (go_at_call 21; go_loud ((with_reducible refine (DkI.Sync_calls HN.out.2 HS.out LV.out OK.out (H2.out.nth 2 rfl)).mono ?_); rintro e w3 ⟨rfl, hs3⟩; have H3 := Aside0.mk hs3; clear hs3)))
  go_ret
  exact ⟨by simp, ((H3.out.nth 1 rfl).nth 2 rfl).tail.nth 0 rfl⟩
end
end Go.Proofs.Ytlngljhinboglaa.DkK
