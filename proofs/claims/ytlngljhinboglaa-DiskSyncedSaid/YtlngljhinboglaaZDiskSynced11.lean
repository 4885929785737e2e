/- What the document's change comes to.
   What the document's Append, Rename, Remove, Sync come to. -/
import Derived.Test.YtlngljhinboglaaZDiskSynced10
namespace Go.Proofs.Ytlngljhinboglaa.DkH
open Go.RowKit Go.WideMaps Go.ChangeMaps Go.MapKept Go.Maps Go.Lib Go.Proofs.YtlngljhinboglaaW.PrintWords Go.Proofs.YtlngljhinboglaaW.PrintLast Go.Proofs.YtlngljhinboglaaW.PrintMore Go.Proofs.Ytlngljhinboglaa.QB Go.Proofs.Ytlngljhinboglaa.Sl Go.Proofs.Ytlngljhinboglaa.DkP Go.Proofs.Ytlngljhinboglaa.DkS Go.Proofs.Ytlngljhinboglaa.DkW Go.Proofs.Ytlngljhinboglaa.DkT Go.Proofs.Ytlngljhinboglaa.DkV Go.Proofs.Ytlngljhinboglaa.DkC Go.Proofs.Ytlngljhinboglaa.DkL Go.Proofs.Ytlngljhinboglaa.DkR Go.Proofs.Ytlngljhinboglaa.DkE Go.Proofs.Ytlngljhinboglaa.DkF Go.Proofs.Ytlngljhinboglaa.DkG
set_option linter.unusedVariables false
set_option linter.unusedSimpArgs false
section
variable {P : Program} {ops : Array Oper} {rest : List Oper} {o : Oper} {a : Act} {Q : Exit → Act → World → Prop} {α : Type}
/-- append(v, ys..) of rows that need no other block. -/
theorem Sat.appendRows (d : Kd α) {w0 W : World} {L : List Asn} (hgd : o.guard = none) (s x : Operand) (t e : TypeId) (z : Value) (bytes : Nat)
    (ho : o.op = .call { callee := .builtin .append, args := #[s, x], argTypes := #[t, t] })
    (ht : P.underlying t = some (.slice e)) (hinfo : (P.info? e).map (fun i => (i.zero, i.size, i.bytes)) = some (some z, d.sz, bytes)) (hz : z.cells.size = d.sz) (hs0 : 0 < d.sz) (hb0 : 0 < bytes)
    (v : Value) (xs ys : List α) (A : Option Addr) (m c : Nat) (hs : a.eval s = v) (hx : a.eval x = .slice A m c)
    (HS : Sat w0 W (Row d e v xs :: L)) (HR : Kd.C d W A m ys) (hKM : ∀ x cs, d.K W x cs → d.M W w0.heap.size (fun _ => False) x cs) (hl : (xs.length + m) * bytes ≤ 140737488355328)
    (h : ∀ v1 w1, Sat w0 w1 (Row d e v1 (xs ++ ys) :: L) → W.heap.size ≤ w1.heap.size → wpList P ops Q rest (a.put o.dst v1) w1) :
    wpList P ops Q (o :: rest) a W := by
  obtain ⟨G, h1, h2, h3⟩ := HS.seps
  refine Kd.R_append_rows d w0.heap.size hgd s x t e z bytes ho ht hinfo hz hs0 hb0 v xs ys A m c (fun k => G k ∨ W.heap.size ≤ k) (fun _ => False) hs hx
    (Kd.R_mono h1 (fun _ hk => .inl hk)) HR hKM (fun _ hk => hk.elim) (fun _ hk => .inr hk) HS.below HS.size hl ?_
  intro v1 w1 hR hB hg _
  exact h v1 w1 (Sat.grew HS.below h2 h3 hR hB hg (fun k hk => h1.1 k hk)) hg.size
theorem Sat.boxed {w0 w w1 : World} {L : List Asn} {g : Nat} {cs : Array Value} {t : TypeId} (h : Sat w0 w L) (hg : g = w.heap.size) (hbox : w1.heap[g]? = some (.cells cs t (0, 0))) (hb : Below w.heap.size w w1) : Sat w0 w1 (Blk g cs t :: L) := by
  have hlt : g < w1.heap.size := by
    rcases Nat.lt_or_ge g w1.heap.size with h2 | h2
    · exact h2
    · rw [Array.getElem?_eq_none h2] at hbox; cases hbox
  exact h.push hb (G' := fun k => k = g) ⟨rfl, hbox⟩ (fun k hk => by subst hk; exact ⟨by omega, hlt⟩)
end
theorem infoC : (Try.prog.info? tC).map (fun i => (i.zero, i.size, i.bytes)) = some (some (.agg #[.int .i64 0, .string ⟨#[]⟩, .string ⟨#[]⟩]), 3, 40) := by kernel_rfl
set_option maxHeartbeats 8000000 in
set_option maxRecDepth 100000 in
theorem change_calls (w0 w : World) (L : List Asn) (g : Nat) (d : DS) (N S : Nat) (c : Ch) (hN : N ≤ 700000) (hS : S ≤ 68719476736) (ok : Rok d N S) (h : Sat w0 w (Rk g d :: L)) :
    Calls Try.prog 49 #[.pointer (some ⟨g, 0, none⟩), .agg #[.int .i64 (chR c).f0, .string (chR c).f1, .string (chR c).f2]] w fun e w' => e = .returned (.int .i64 0) ∧ Sat w0 w' (Rk g { d with ops := d.ops + 1, pend := d.pend ++ [c], files := c.go c.size d.files } :: L) := by
  have H := Aside0.mk h
  have OK := Aside0.mk ok
  have hpl : d.pend.length ≤ 700000 := by have := ok.ok.nl; omega
  obtain ⟨ys, hys⟩ : ∃ ys, d.pend.map chR = ys := ⟨_, rfl⟩
  obtain ⟨m, hm⟩ : ∃ m, ys.length = m := ⟨_, rfl⟩
  have HYS := Aside0.mk hys
  have HM := Aside0.mk hm
  have hp2 : m ≤ 700000 := by rw [← hm, ← hys, List.length_map]; exact hpl
  have HX := Aside0.mk (show (d.pend ++ [c]).map chR = ([] ++ ys) ++ [chR c] from by rw [← hys]; simp)
  clear h ok hpl hys hm
  generalize chR c = x at HX ⊢
  go_enter Try.func49, Try.ntmps49
  go_upto_region 4 with (first
    | ((with_reducible refine gate_dst (N := 3) rfl ?_); refine box_event ?hg (N := 3) ?hd (cs := #[.int .i64 x.f0, .string x.f1, .string x.f2]) (t := tC) ?hr ?_; (case hd => rfl); (case hg => rfl); (case hr => first | (go_simp; done) | (go_simp; rfl)); intro gb hgb w1 hbox hb; have H1 := Aside0.mk (Sat.boxed H.out hgb hbox hb); clear hb hbox hgb)
    | (go_at_call 41; go_loud ((with_reducible refine (raw_calls w0 _ _ g d N S (by omega) hS OK.out (H1.out.nth 1 rfl)).mono ?_); rintro e w2 ⟨rfl, hs2⟩; obtain ⟨A0, c0, A1, c1, _, _, hs2'⟩ := Rk.open hs2; have H2 := Aside0.mk (show Sat w0 w2 (Blk g (rcells { d with ops := d.ops + 1 } (.slice A0 (ofFS d.lasting).length c0) (.slice A1 m c1)) tD :: Row kF tF (.slice A0 (ofFS d.lasting).length c0) (ofFS d.lasting) :: Row kC tC (.slice A1 m c1) ys :: Blk gb #[.int .i64 x.f0, .string x.f1, .string x.f2] tC :: L) from by rw [← HM.out, ← HYS.out]; exact hs2'); clear hs2 hs2')))
  have H3 := Aside0.mk (Sat.emptyRow kC tC H2.out)
  have x2 := (H3.out.nth 1 rfl).cell 2 (v := .slice A1 m c1) rfl
  have HC3 := Aside0.mk (show Kd.C kC _ A1 m ys from by rw [← HM.out]; exact (H3.out.nth 3 rfl).rowC)
  generalize w2.alloc (.cells #[] tC) = w3 at H3 x2 HC3 ⊢
  generalize w2.heap.size = g3 at H3 ⊢
  go_upto_region 5 with (first | (at_builtin; go_loud (refine Sat.appendRows kC rfl (.tmp 12) (.tmp 16) 65 tC (.agg #[.int .i64 0, .string ⟨#[]⟩, .string ⟨#[]⟩]) 40 rfl Try.underlying65 infoC rfl (by decide) (by omega) _ [] ys A1 m c1 rfl rfl H3.out HC3.out (fun _ _ h => h) (by simp only [List.length_nil]; omega) ?_; intro v4 w4 hs4 _; have H4 := Aside0.mk hs4; clear hs4)))
  have y0 := (H4.out.nth 4 rfl).cell 0 (v := .int .i64 x.f0) rfl
  have y1 := (H4.out.nth 4 rfl).cell 1 (v := .string x.f1) rfl
  have y2 := (H4.out.nth 4 rfl).cell 2 (v := .string x.f2) rfl
  have HLL := Aside0.mk (show ([] ++ ys).length ≤ 700000 from by rw [List.nil_append, HM.out]; exact hp2)
  clear x2
  go_wp2_with (first | (at_builtin; go_loud (refine Sat.append kC rfl (.tmp 19) (.tmp 21) 65 tC (.agg #[.int .i64 0, .string ⟨#[]⟩, .string ⟨#[]⟩]) 40 rfl Try.underlying65 infoC rfl (by decide) (by omega) v4 ([] ++ ys) x [.int .i64 x.f0, .string x.f1, .string x.f2] rfl rfl (k72_mkM _ _ _ x) H4.out (by have := HLL.out; omega) ?_; intro v5 w5 hs5 _; obtain ⟨A5, c5, e5, _, _⟩ := hs5.rowSlice; subst e5; have H5 := Aside0.mk hs5; have f2 := (hs5.nth 1 rfl).free 2; have z2 := (hs5.nth 1 rfl).cell 2 (v := .slice A1 m c1) rfl; clear hs5)))
  go_ret
  have h6 := (H5.out.nth 1 rfl).setBlk 2 (.slice A5 (([] ++ ys) ++ [x]).length c5)
  refine ⟨rfl, ?_⟩
  rw [← HX.out] at h6
  rw [show ((d.pend ++ [c]).map chR).length = ys.length + 1 from by rw [HX.out]; simp] at h6
  exact Rk.mk (d := { d with ops := d.ops + 1, pend := d.pend ++ [c], files := c.go c.size d.files }) (lv := .slice A0 (ofFS d.lasting).length c0) (pv := .slice A5 (ys.length + 1) c5) ((((h6.nth 3 rfl).tail.nth 3 rfl).tail.nth 2 rfl).nth 1 rfl)
theorem Rok.live {d : DS} {N S : Nat} {r : Int} (h : Rok d N S) (hl : Live r d N S) (c : Ch) {N' S' : Nat} (hv : Vd1 c d.files) (ok : Ok (d.change c).1 N' S') : Rok (d.change c).1 N' S' := by
  have e := hl.change c
  refine ⟨ok, ?_, ?_⟩
  · rw [e]
    show goAll (d.pend ++ [c]) d.lasting = c.go c.size d.files
    rw [goAll_snoc, h.fl]
  · rw [e]
    show Vd (d.pend ++ [c]) d.lasting
    rw [Vd_snoc, h.fl]
    exact ⟨h.vd, hv⟩
end Go.Proofs.Ytlngljhinboglaa.DkH
namespace Go.Proofs.Ytlngljhinboglaa.DkI
open Go.RowKit Go.WideMaps Go.ChangeMaps Go.MapKept Go.Maps Go.Lib Go.Proofs.YtlngljhinboglaaW.PrintWords Go.Proofs.YtlngljhinboglaaW.PrintLast Go.Proofs.YtlngljhinboglaaW.PrintMore Go.Proofs.Ytlngljhinboglaa.QB Go.Proofs.Ytlngljhinboglaa.Sl Go.Proofs.Ytlngljhinboglaa.DkP Go.Proofs.Ytlngljhinboglaa.DkS Go.Proofs.Ytlngljhinboglaa.DkW Go.Proofs.Ytlngljhinboglaa.DkT Go.Proofs.Ytlngljhinboglaa.DkV Go.Proofs.Ytlngljhinboglaa.DkC Go.Proofs.Ytlngljhinboglaa.DkL Go.Proofs.Ytlngljhinboglaa.DkR Go.Proofs.Ytlngljhinboglaa.DkE Go.Proofs.Ytlngljhinboglaa.DkF Go.Proofs.Ytlngljhinboglaa.DkG Go.Proofs.Ytlngljhinboglaa.DkH
set_option linter.unusedVariables false
set_option linter.unusedSimpArgs false
theorem may_f (a : ByteArray) : thermographref01_may.f a = some (fits a) := by
  unfold thermographref01_may.f fits
  split
  · congr 1
    rw [Bool.eq_iff_iff, decide_eq_true_iff, decide_eq_true_iff]
    omega
  · congr 1
    rw [eq_comm, decide_eq_false_iff_not]
    omega
theorem may_at (a : ByteArray) (w : World) : Calls Try.prog 47 #[.string a] w fun e w' => e = .returned (.bool (fits a)) ∧ Drawn0 w w' :=
  thermographref01_may.calls a _ w (may_f a)
theorem wrap_sub {a : Int} {t : Nat} (h0 : 0 ≤ a) (h1 : a ≤ 68719476736) (h2 : t ≤ 68719476736) : wrap64 (a - (t : Int)) = a - (t : Int) := by unfold wrap64; omega
def Ei.T3 : Bool × List (List Nat × List Nat) := (true, [([], []), ([0], [0]), ([], []), ([2], [2]), ([3], [3]), ([4], [4]), ([], []), ([6], [6]), ([5, 7], [5, 7]), ([1, 8], [1, 8])])
def Ei.B3 : List Nat := [0, 1, 0, 4, 12, 28, 0, 64, 252, 511]
theorem Ei.tab3 : rtab .any (opsOf Try.f33 3) = Ei.T3 := by kernel_rfl
theorem Ei.bits3 : waitsOk Ei.T3.2 Ei.B3 = true := by kernel_rfl
section
variable {w0 w : World} {L : List Asn} {g : Nat} {d : DS} {N S : Nat} {r : Int}
set_option maxHeartbeats 8000000 in
set_option maxRecDepth 100000 in
theorem Append_calls (a s : ByteArray) (hN : N ≤ 700000) (hS : S ≤ 68719476736) (hr0 : 0 ≤ r) (hr1 : r ≤ 68719476736) (hs : s.size ≤ 68719476736) (hl : Live r d N S) (ok : Rok d N S) (h : Sat w0 w (Rk g d :: L)) :
    Calls Try.prog 33 #[.pointer (some ⟨g, 0, none⟩), .string a, .string s] w fun e w' => e = .returned (.int .i64 (d.append a s).2) ∧ Sat w0 w' (Rk g (d.append a s).1 :: L) := by
  have H := Aside0.mk h
  have OK := Aside0.mk ok
  have HD := Aside0.mk (show ∀ w, Sat w0 w (Rk g d :: L) → Calls Try.prog 49 #[.pointer (some ⟨g, 0, none⟩), .agg #[.int .i64 0, .string a, .string s]] w fun e w' => e = .returned (.int .i64 0) ∧ Sat w0 w' (Rk g { d with ops := d.ops + 1, pend := d.pend ++ [.app a s], files := (Ch.app a s).go (Ch.app a s).size d.files } :: L) from fun w h => change_calls w0 w L g d N S (.app a s) hN hS ok h)
  by_cases hf : fits a = false
  · have HR := Aside0.mk (show d.append a s = (d, 10) from by unfold DS.append; rw [if_pos hf])
    clear h ok hl HD
    go_enter Try.func33, Try.ntmps33
    go_wp2_with (first | (go_at_call 47; go_loud ((with_reducible refine (may_at a _).mono ?_); rintro e w2 ⟨rfl, hd⟩; rw [hf]; have H2 := Aside0.mk (H.out.step hd.below); clear hd)))
    go_ret
    rw [HR.out]
    exact ⟨rfl, H2.out⟩
  · have hf2 : fits a = true := by simpa using hf
    have hrm := hl.rm
    have htr := hl.rt
    have hrm2 : d.room ≤ 68719476736 := by omega
    have hrm3 : 0 ≤ d.room := by omega
    have htt : tot d.files ≤ 68719476736 := by omega
    by_cases hr : d.room < (tot d.files : Int) + s.size
    · have HR := Aside0.mk (show d.append a s = (d, 12) from by unfold DS.append; rw [if_neg hf, if_pos hr])
      have d1 : decide (d.room - (tot d.files : Int) < (s.size : Int)) = true := decide_eq_true (by omega)
      have d2 : decide (wrap64 (d.room - (tot d.files : Int)) < (s.size : Int)) = true := by rw [wrap_sub hrm3 hrm2 htt]; exact d1
      clear h ok hl HD hf hr htr hrm
      go_enter Try.func33, Try.ntmps33
      go_upto_region 3 with (first | (go_at_call 47; go_loud ((with_reducible refine (may_at a _).mono ?_); rintro e w2 ⟨rfl, hd⟩; rw [hf2]; have H2 := Aside0.mk (H.out.step hd.below); clear hd)))
      have x0 := (Rk.cell H2.out).1
      refine start_ (n := 10) (S := fun w' => w'.cell? ⟨g, 0, none⟩ = some (.int .i64 d.room)) (ds := []) #[false, false, false, false, false, false, false, false, false, false] (by kernel_rfl) rfl rfl (x0) (fun hHeld => ?_)
      refine with_tabW Ei.tab3 Ei.bits3 (fun HT_ HW_ => ?_)
      refine pure_ (i := 0) (N := some 10) (v := ?_) (a' := ?_) #[true, false, false, false, false, false, false, false, false, false] rfl rfl (any_of HT_.out (by kernel_rfl)) (fun _ _ _ h => h) (Or.inl ⟨by rfl, ?_⟩) ?_ ?_
      rotate_left
      · intro w'
        go_simp
        with_reducible rfl
      rotate_left
      · simp only [Act.put, List.setIfInBounds_toArray, List.set_cons_zero, List.set_cons_succ, i64_w, i32_w]
        rfl
      refine pure_ (i := 1) (N := some 11) (v := ?_) (a' := ?_) #[true, true, false, false, false, false, false, false, false, false] rfl rfl (any_of HT_.out (by kernel_rfl)) (fun _ _ _ h => h) (Or.inl ⟨by rfl, ?_⟩) ?_ ?_
      rotate_left
      · intro w'
        go_simp
        with_reducible rfl
      rotate_left
      · simp only [Act.put, List.setIfInBounds_toArray, List.set_cons_zero, List.set_cons_succ, i64_w, i32_w]
        rfl
      refine pure_ (i := 2) (N := some 12) (v := ?_) (a' := ?_) #[true, true, true, false, false, false, false, false, false, false] rfl rfl (any_of HT_.out (by kernel_rfl)) (fun _ _ _ h => h) (Or.inl ⟨by rfl, ?_⟩) ?_ ?_
      rotate_left
      · intro w'
        go_simp
        with_reducible rfl
      rotate_left
      · simp only [Act.put, List.setIfInBounds_toArray, List.set_cons_zero, List.set_cons_succ, i64_w, i32_w]
        rfl
      refine pure_ (i := 3) (N := some 13) (v := ?_) (a' := ?_) #[true, true, true, true, false, false, false, false, false, false] rfl rfl (any_of HT_.out (by kernel_rfl)) (fun _ _ _ h => h) (Or.inl ⟨by rfl, ?_⟩) ?_ ?_
      rotate_left
      · intro w'
        go_simp
        with_reducible rfl
      rotate_left
      · simp only [Act.put, List.setIfInBounds_toArray, List.set_cons_zero, List.set_cons_succ, i64_w, i32_w]
        rfl
      refine pure_ (i := 4) (N := some 14) (v := ?_) (a' := ?_) #[true, true, true, true, true, false, false, false, false, false] rfl rfl (any_of HT_.out (by kernel_rfl)) (fun _ _ _ h => h) (Or.inl ⟨by rfl, ?_⟩) ?_ ?_
      rotate_left
      · intro w'
        go_simp
        with_reducible rfl
      rotate_left
      · simp only [Act.put, List.setIfInBounds_toArray, List.set_cons_zero, List.set_cons_succ, i64_w, i32_w]
        rfl
      refine pure_ (i := 6) (N := some 16) (v := ?_) (a' := ?_) #[true, true, true, true, true, false, true, false, false, false] rfl rfl (any_of HT_.out (by kernel_rfl)) (fun _ _ _ h => h) (Or.inl ⟨by rfl, ?_⟩) ?_ ?_
      rotate_left
      · intro w'
        go_simp
        with_reducible rfl
      rotate_left
      · simp only [Act.put, List.setIfInBounds_toArray, List.set_cons_zero, List.set_cons_succ, i64_w, i32_w]
        rfl
      refine take_ (i := 5) (N := some 15) (v := ?_) (a' := ?_) #[true, true, true, true, true, true, true, false, false, false] rfl rfl (take_ofW HT_.out HW_.out (by kernel_rfl)) (fun _ _ _ h => h) (Or.inl ⟨by rfl, ?_⟩) hHeld ?_ ?_
      rotate_left
      · intro w' s0
        go_simp
        with_reducible rfl
      rotate_left
      · simp only [Act.put, List.setIfInBounds_toArray, List.set_cons_zero, List.set_cons_succ, i64_w, i32_w]
        rfl
      refine one_ (i := 7) (N := some 17) #[true, true, true, true, true, true, true, true, false, false] rfl rfl (one_of HT_.out (by kernel_rfl)) (by decide) (fun K hK => ?_)
      refine goes_ Try.func48 (by kernel_rfl) rfl #[.pointer (some ⟨g, 0, none⟩)] (by rfl) rfl rfl (by simp only [List.map_toArray, List.map_cons, List.map_nil]; rfl) ?_
      with_reducible refine (Used_calls w0 _ _ g d N S (Nat.le_trans hN (by decide)) hS OK.out H2.out.drew).mono ?_
      rintro e w3 ⟨rfl, hs3⟩
      refine ⟨_, rfl, ?_⟩
      have H3 := Aside0.mk hs3
      have x3 := (Rk.cell hs3).1
      clear hs3
      refine hK.out _ _ (x3) (fun hHeld => ?_)
      clear hK K
      refine norm_ (a' := ?_) ?_ ?_
      rotate_left
      · show Act.put _ (some 17) _ = _
        simp only [Act.put, List.setIfInBounds_toArray, List.set_cons_zero, List.set_cons_succ, i64_w, i32_w]
        rfl
      refine pure_ (i := 8) (N := some 18) (v := ?_) (a' := ?_) #[true, true, true, true, true, true, true, true, true, false] rfl rfl (any_of HT_.out (by kernel_rfl)) (fun _ _ _ h => h) (Or.inl ⟨by rfl, ?_⟩) ?_ ?_
      rotate_left
      · intro w'
        go_simp
        with_reducible rfl
      rotate_left
      · simp only [Act.put, List.setIfInBounds_toArray, List.set_cons_zero, List.set_cons_succ, i64_w, i32_w]
        rfl
      refine pure_ (i := 9) (N := some 19) (v := ?_) (a' := ?_) #[true, true, true, true, true, true, true, true, true, true] rfl rfl (any_of HT_.out (by kernel_rfl)) (fun _ _ _ h => h) (Or.inl ⟨by rfl, ?_⟩) ?_ ?_
      rotate_left
      · intro w'
        go_simp
        with_reducible rfl
      rotate_left
      · simp only [Act.put, List.setIfInBounds_toArray, List.set_cons_zero, List.set_cons_succ, i64_w, i32_w]
        rfl
      refine done_ (done_of HT_.out (by kernel_rfl)) ?_
      go_wp2
      go_ret
      rw [HR.out]
      exact ⟨rfl, H3.out⟩
    · have HR := Aside0.mk (show d.append a s = ({ d with ops := d.ops + 1, pend := d.pend ++ [.app a s], files := (Ch.app a s).go (Ch.app a s).size d.files }, 0) from by unfold DS.append; rw [if_neg hf, if_neg hr]; exact hl.change _)
      have d1 : decide (d.room - (tot d.files : Int) < (s.size : Int)) = false := decide_eq_false (by omega)
      have d2 : decide (wrap64 (d.room - (tot d.files : Int)) < (s.size : Int)) = false := by rw [wrap_sub hrm3 hrm2 htt]; exact d1
      clear h ok hl hf hr htr hrm
      go_enter Try.func33, Try.ntmps33
      go_upto_region 3 with (first | (go_at_call 47; go_loud ((with_reducible refine (may_at a _).mono ?_); rintro e w2 ⟨rfl, hd⟩; rw [hf2]; have H2 := Aside0.mk (H.out.step hd.below); clear hd)))
      have x0 := (Rk.cell H2.out).1
      refine start_ (n := 10) (S := fun w' => w'.cell? ⟨g, 0, none⟩ = some (.int .i64 d.room)) (ds := []) #[false, false, false, false, false, false, false, false, false, false] (by kernel_rfl) rfl rfl (x0) (fun hHeld => ?_)
      refine with_tabW Ei.tab3 Ei.bits3 (fun HT_ HW_ => ?_)
      refine pure_ (i := 0) (N := some 10) (v := ?_) (a' := ?_) #[true, false, false, false, false, false, false, false, false, false] rfl rfl (any_of HT_.out (by kernel_rfl)) (fun _ _ _ h => h) (Or.inl ⟨by rfl, ?_⟩) ?_ ?_
      rotate_left
      · intro w'
        go_simp
        with_reducible rfl
      rotate_left
      · simp only [Act.put, List.setIfInBounds_toArray, List.set_cons_zero, List.set_cons_succ, i64_w, i32_w]
        rfl
      refine pure_ (i := 1) (N := some 11) (v := ?_) (a' := ?_) #[true, true, false, false, false, false, false, false, false, false] rfl rfl (any_of HT_.out (by kernel_rfl)) (fun _ _ _ h => h) (Or.inl ⟨by rfl, ?_⟩) ?_ ?_
      rotate_left
      · intro w'
        go_simp
        with_reducible rfl
      rotate_left
      · simp only [Act.put, List.setIfInBounds_toArray, List.set_cons_zero, List.set_cons_succ, i64_w, i32_w]
        rfl
      refine pure_ (i := 2) (N := some 12) (v := ?_) (a' := ?_) #[true, true, true, false, false, false, false, false, false, false] rfl rfl (any_of HT_.out (by kernel_rfl)) (fun _ _ _ h => h) (Or.inl ⟨by rfl, ?_⟩) ?_ ?_
      rotate_left
      · intro w'
        go_simp
        with_reducible rfl
      rotate_left
      · simp only [Act.put, List.setIfInBounds_toArray, List.set_cons_zero, List.set_cons_succ, i64_w, i32_w]
        rfl
      refine pure_ (i := 3) (N := some 13) (v := ?_) (a' := ?_) #[true, true, true, true, false, false, false, false, false, false] rfl rfl (any_of HT_.out (by kernel_rfl)) (fun _ _ _ h => h) (Or.inl ⟨by rfl, ?_⟩) ?_ ?_
      rotate_left
      · intro w'
        go_simp
        with_reducible rfl
      rotate_left
      · simp only [Act.put, List.setIfInBounds_toArray, List.set_cons_zero, List.set_cons_succ, i64_w, i32_w]
        rfl
      refine pure_ (i := 4) (N := some 14) (v := ?_) (a' := ?_) #[true, true, true, true, true, false, false, false, false, false] rfl rfl (any_of HT_.out (by kernel_rfl)) (fun _ _ _ h => h) (Or.inl ⟨by rfl, ?_⟩) ?_ ?_
      rotate_left
      · intro w'
        go_simp
        with_reducible rfl
      rotate_left
      · simp only [Act.put, List.setIfInBounds_toArray, List.set_cons_zero, List.set_cons_succ, i64_w, i32_w]
        rfl
      refine pure_ (i := 6) (N := some 16) (v := ?_) (a' := ?_) #[true, true, true, true, true, false, true, false, false, false] rfl rfl (any_of HT_.out (by kernel_rfl)) (fun _ _ _ h => h) (Or.inl ⟨by rfl, ?_⟩) ?_ ?_
      rotate_left
      · intro w'
        go_simp
        with_reducible rfl
      rotate_left
      · simp only [Act.put, List.setIfInBounds_toArray, List.set_cons_zero, List.set_cons_succ, i64_w, i32_w]
        rfl
      refine take_ (i := 5) (N := some 15) (v := ?_) (a' := ?_) #[true, true, true, true, true, true, true, false, false, false] rfl rfl (take_ofW HT_.out HW_.out (by kernel_rfl)) (fun _ _ _ h => h) (Or.inl ⟨by rfl, ?_⟩) hHeld ?_ ?_
      rotate_left
      · intro w' s0
        go_simp
        with_reducible rfl
      rotate_left
      · simp only [Act.put, List.setIfInBounds_toArray, List.set_cons_zero, List.set_cons_succ, i64_w, i32_w]
        rfl
      refine one_ (i := 7) (N := some 17) #[true, true, true, true, true, true, true, true, false, false] rfl rfl (one_of HT_.out (by kernel_rfl)) (by decide) (fun K hK => ?_)
      refine goes_ Try.func48 (by kernel_rfl) rfl #[.pointer (some ⟨g, 0, none⟩)] (by rfl) rfl rfl (by simp only [List.map_toArray, List.map_cons, List.map_nil]; rfl) ?_
      with_reducible refine (Used_calls w0 _ _ g d N S (Nat.le_trans hN (by decide)) hS OK.out H2.out.drew).mono ?_
      rintro e w3 ⟨rfl, hs3⟩
      refine ⟨_, rfl, ?_⟩
      have H3 := Aside0.mk hs3
      have x3 := (Rk.cell hs3).1
      clear hs3
      refine hK.out _ _ (x3) (fun hHeld => ?_)
      clear hK K
      refine norm_ (a' := ?_) ?_ ?_
      rotate_left
      · show Act.put _ (some 17) _ = _
        simp only [Act.put, List.setIfInBounds_toArray, List.set_cons_zero, List.set_cons_succ, i64_w, i32_w]
        rfl
      refine pure_ (i := 8) (N := some 18) (v := ?_) (a' := ?_) #[true, true, true, true, true, true, true, true, true, false] rfl rfl (any_of HT_.out (by kernel_rfl)) (fun _ _ _ h => h) (Or.inl ⟨by rfl, ?_⟩) ?_ ?_
      rotate_left
      · intro w'
        go_simp
        with_reducible rfl
      rotate_left
      · simp only [Act.put, List.setIfInBounds_toArray, List.set_cons_zero, List.set_cons_succ, i64_w, i32_w]
        rfl
      refine pure_ (i := 9) (N := some 19) (v := ?_) (a' := ?_) #[true, true, true, true, true, true, true, true, true, true] rfl rfl (any_of HT_.out (by kernel_rfl)) (fun _ _ _ h => h) (Or.inl ⟨by rfl, ?_⟩) ?_ ?_
      rotate_left
      · intro w'
        go_simp
        with_reducible rfl
      rotate_left
      · simp only [Act.put, List.setIfInBounds_toArray, List.set_cons_zero, List.set_cons_succ, i64_w, i32_w]
        rfl
      refine done_ (done_of HT_.out (by kernel_rfl)) ?_
      go_wp2_with (first | (go_at_call 49; go_loud ((with_reducible refine (HD.out _ H3.out).mono ?_); rintro e w4 ⟨rfl, hs4⟩; have H4 := Aside0.mk hs4; clear hs4)))
      go_ret
      rw [HR.out]
      exact ⟨rfl, H4.out⟩
set_option maxHeartbeats 8000000 in
set_option maxRecDepth 100000 in
theorem Remove_calls (a : ByteArray) (hN : N ≤ 700000) (hS : S ≤ 68719476736) (hl : Live r d N S) (ok : Rok d N S) (h : Sat w0 w (Rk g d :: L)) :
    Calls Try.prog 35 #[.pointer (some ⟨g, 0, none⟩), .string a] w fun e w' => e = .returned (.int .i64 (d.remove a).2) ∧ Sat w0 w' (Rk g (d.remove a).1 :: L) := by
  have H := Aside0.mk h
  have OK := Aside0.mk ok
  have HD := Aside0.mk (show ∀ w, Sat w0 w (Rk g d :: L) → Calls Try.prog 49 #[.pointer (some ⟨g, 0, none⟩), .agg #[.int .i64 2, .string a, .string ⟨#[]⟩]] w fun e w' => e = .returned (.int .i64 0) ∧ Sat w0 w' (Rk g { d with ops := d.ops + 1, pend := d.pend ++ [.rem a], files := (Ch.rem a).go (Ch.rem a).size d.files } :: L) from fun w h => change_calls w0 w L g d N S (.rem a) hN hS ok h)
  by_cases hf : fits a = false
  · have HR := Aside0.mk (show d.remove a = (d, 10) from by unfold DS.remove; rw [if_pos hf])
    clear h ok hl HD
    go_enter Try.func35, Try.ntmps35
    go_wp2_with (first | (go_at_call 47; go_loud ((with_reducible refine (may_at a _).mono ?_); rintro e w2 ⟨rfl, hd⟩; rw [hf]; have H2 := Aside0.mk (H.out.step hd.below); clear hd)))
    go_ret
    rw [HR.out]
    exact ⟨rfl, H2.out⟩
  · have hf2 : fits a = true := by simpa using hf
    cases hg : get (nm a) d.files with
    | none =>
      have HR := Aside0.mk (show d.remove a = (d, 11) from by unfold DS.remove; rw [if_neg hf, if_pos hg])
      have HI : (get (nm a) d.files).isSome = false := by rw [hg]; rfl
      clear h ok hl HD hf hg
      go_enter Try.func35, Try.ntmps35
      go_wp2_with (first
        | (go_at_call 47; go_loud ((with_reducible refine (may_at a _).mono ?_); rintro e w2 ⟨rfl, hd⟩; rw [hf2]; have H2 := Aside0.mk (H.out.step hd.below); clear hd))
        | (go_at_call 50; go_loud ((with_reducible refine (Read_calls w0 _ _ g d N S a (Nat.le_trans hN (by decide)) hS OK.out H2.out).mono ?_); rintro e w3 ⟨rfl, hs3⟩; rw [HI]; have H3 := Aside0.mk hs3; clear hs3)))
      go_ret
      rw [HR.out]
      exact ⟨rfl, H3.out⟩
    | some v =>
      have HR := Aside0.mk (show d.remove a = ({ d with ops := d.ops + 1, pend := d.pend ++ [.rem a], files := (Ch.rem a).go (Ch.rem a).size d.files }, 0) from by unfold DS.remove; rw [if_neg hf, if_neg (by rw [hg]; simp)]; exact hl.change _)
      have HI : (get (nm a) d.files).isSome = true := by rw [hg]; rfl
      clear h ok hl hf hg
      go_enter Try.func35, Try.ntmps35
      go_wp2_with (first
        | (go_at_call 47; go_loud ((with_reducible refine (may_at a _).mono ?_); rintro e w2 ⟨rfl, hd⟩; rw [hf2]; have H2 := Aside0.mk (H.out.step hd.below); clear hd))
        | (go_at_call 50; go_loud ((with_reducible refine (Read_calls w0 _ _ g d N S a (Nat.le_trans hN (by decide)) hS OK.out H2.out).mono ?_); rintro e w3 ⟨rfl, hs3⟩; rw [HI]; have H3 := Aside0.mk hs3; clear hs3))
        | (go_at_call 49; go_loud ((with_reducible refine (HD.out _ H3.out).mono ?_); rintro e w4 ⟨rfl, hs4⟩; have H4 := Aside0.mk hs4; clear hs4)))
      go_ret
      rw [HR.out]
      exact ⟨rfl, H4.out⟩
set_option maxHeartbeats 8000000 in
set_option maxRecDepth 100000 in
theorem Rename_calls (a b : ByteArray) (hN : N ≤ 700000) (hS : S ≤ 68719476736) (hl : Live r d N S) (ok : Rok d N S) (h : Sat w0 w (Rk g d :: L)) :
    Calls Try.prog 34 #[.pointer (some ⟨g, 0, none⟩), .string a, .string b] w fun e w' => e = .returned (.int .i64 (d.rename a b).2) ∧ Sat w0 w' (Rk g (d.rename a b).1 :: L) := by
  have H := Aside0.mk h
  have OK := Aside0.mk ok
  have HD := Aside0.mk (show ∀ w, Sat w0 w (Rk g d :: L) → Calls Try.prog 49 #[.pointer (some ⟨g, 0, none⟩), .agg #[.int .i64 1, .string a, .string b]] w fun e w' => e = .returned (.int .i64 0) ∧ Sat w0 w' (Rk g { d with ops := d.ops + 1, pend := d.pend ++ [.ren a b], files := (Ch.ren a b).go (Ch.ren a b).size d.files } :: L) from fun w h => change_calls w0 w L g d N S (.ren a b) hN hS ok h)
  by_cases hf : fits a = false
  · have HR := Aside0.mk (show d.rename a b = (d, 10) from by unfold DS.rename; rw [if_pos (Or.inl hf)])
    clear h ok hl HD
    go_enter Try.func34, Try.ntmps34
    go_wp2_with (first | (go_at_call 47; go_loud ((with_reducible refine (may_at a _).mono ?_); rintro e w2 ⟨rfl, hd⟩; rw [hf]; have H2 := Aside0.mk (H.out.step hd.below); clear hd)))
    go_ret
    rw [HR.out]
    exact ⟨rfl, H2.out⟩
  have hf2 : fits a = true := by simpa using hf
  by_cases hg2 : fits b = false
  · have HR := Aside0.mk (show d.rename a b = (d, 10) from by unfold DS.rename; rw [if_pos (Or.inr hg2)])
    clear h ok hl HD hf
    go_enter Try.func34, Try.ntmps34
    go_wp2_with (first
      | (go_at_call 47; go_loud (first | ((with_reducible refine (may_at a _).mono ?_); rintro e w2 ⟨rfl, hd⟩; rw [hf2]; have H2 := Aside0.mk (H.out.step hd.below); clear hd) | ((with_reducible refine (may_at b _).mono ?_); rintro e w3 ⟨rfl, hd⟩; rw [hg2]; have H3 := Aside0.mk (H2.out.step hd.below); clear hd))))
    go_ret
    rw [HR.out]
    exact ⟨rfl, H3.out⟩
  have hb2 : fits b = true := by simpa using hg2
  have hno : ¬ (fits a = false ∨ fits b = false) := fun h => h.elim hf hg2
  cases hg : get (nm a) d.files with
  | none =>
    have HR := Aside0.mk (show d.rename a b = (d, 11) from by unfold DS.rename; rw [if_neg hno, if_pos hg])
    have HI : (get (nm a) d.files).isSome = false := by rw [hg]; rfl
    clear h ok hl HD hf hg hg2 hno
    go_enter Try.func34, Try.ntmps34
    go_wp2_with (first
      | (go_at_call 47; go_loud (first | ((with_reducible refine (may_at a _).mono ?_); rintro e w2 ⟨rfl, hd⟩; rw [hf2]; have H2 := Aside0.mk (H.out.step hd.below); clear hd) | ((with_reducible refine (may_at b _).mono ?_); rintro e w3 ⟨rfl, hd⟩; rw [hb2]; have H3 := Aside0.mk (H2.out.step hd.below); clear hd)))
      | (go_at_call 50; go_loud ((with_reducible refine (Read_calls w0 _ _ g d N S a (Nat.le_trans hN (by decide)) hS OK.out H3.out).mono ?_); rintro e w4 ⟨rfl, hs4⟩; rw [HI]; have H4 := Aside0.mk hs4; clear hs4)))
    go_ret
    rw [HR.out]
    exact ⟨rfl, H4.out⟩
  | some v =>
    have HR := Aside0.mk (show d.rename a b = ({ d with ops := d.ops + 1, pend := d.pend ++ [.ren a b], files := (Ch.ren a b).go (Ch.ren a b).size d.files }, 0) from by unfold DS.rename; rw [if_neg hno, if_neg (by rw [hg]; simp)]; exact hl.change _)
    have HI : (get (nm a) d.files).isSome = true := by rw [hg]; rfl
    clear h ok hl hf hg hg2 hno
    go_enter Try.func34, Try.ntmps34
    go_wp2_with (first
      | (go_at_call 47; go_loud (first | ((with_reducible refine (may_at a _).mono ?_); rintro e w2 ⟨rfl, hd⟩; rw [hf2]; have H2 := Aside0.mk (H.out.step hd.below); clear hd) | ((with_reducible refine (may_at b _).mono ?_); rintro e w3 ⟨rfl, hd⟩; rw [hb2]; have H3 := Aside0.mk (H2.out.step hd.below); clear hd)))
      | (go_at_call 50; go_loud ((with_reducible refine (Read_calls w0 _ _ g d N S a (Nat.le_trans hN (by decide)) hS OK.out H3.out).mono ?_); rintro e w4 ⟨rfl, hs4⟩; rw [HI]; have H4 := Aside0.mk hs4; clear hs4))
      | (go_at_call 49; go_loud ((with_reducible refine (HD.out _ H4.out).mono ?_); rintro e w5 ⟨rfl, hs5⟩; have H5 := Aside0.mk hs5; clear hs5)))
    go_ret
    rw [HR.out]
    exact ⟨rfl, H5.out⟩
theorem Rok.raw {d : DS} {N S : Nat} (h : Rok d N S) : Rok { d with ops := d.ops + 1 } (N + 1) S :=
  ⟨⟨h.ok.rf, h.ok.rl, Nat.le_succ_of_le h.ok.nf, Nat.le_succ_of_le h.ok.nl, h.ok.tf, h.ok.tl, by have := h.ok.op0; show 0 ≤ d.ops + 1; omega, by have := h.ok.op1; show d.ops + 1 ≤ ((N + 1 : Nat) : Int); omega, h.ok.l0, h.ok.l1, h.ok.nm⟩, h.fl, h.vd⟩
set_option maxHeartbeats 8000000 in
set_option maxRecDepth 100000 in
theorem Sync_calls (hN : N ≤ 700000) (hS : S ≤ 68719476736) (hl : Live r d N S) (ok : Rok d N S) (h : Sat w0 w (Rk g d :: L)) :
    Calls Try.prog 21 #[.pointer (some ⟨g, 0, none⟩)] w fun e w' => e = .returned (.int .i64 0) ∧ Sat w0 w' (Rk g d.sync.1 :: L) := by
  have H := Aside0.mk h
  have OK := Aside0.mk ok
  have OK2 := Aside0.mk (Rok.raw ok)
  have HR := Aside0.mk hl.sync
  have hN1 : N + 1 ≤ 800000 := by omega
  clear h ok hl
  go_enter Try.func21, Try.ntmps21
  go_wp2_with (first
    | (go_at_call 41; go_loud ((with_reducible refine (raw_calls w0 _ _ g d N S (Nat.le_trans hN (by decide)) hS OK.out H.out).mono ?_); rintro e w2 ⟨rfl, hs2⟩; have H2 := Aside0.mk hs2; clear hs2))
    | (go_at_call 24; go_loud ((with_reducible refine (Files_calls w0 _ _ g _ (N + 1) S hN1 hS OK2.out H2.out).mono ?_); rintro e w3 ⟨lv, pv, A, c, rfl, _, _, _, hs3, _⟩; have H3 := Aside0.mk hs3; have f1 := hs3.free 1; have f2 := hs3.free 2; have z1 := hs3.cell 1 (v := lv) rfl; have z2 := hs3.cell 2 (v := pv) rfl; clear hs3)))
  go_ret
  have h4 := (H3.out.setBlk 1 (.slice A (ofFS d.files).length c)).setBlk 2 (.slice none 0 0)
  have h5 := Sat.nilRow kC tC (h4.nth 2 rfl).tail
  refine ⟨rfl, ?_⟩
  rw [HR.out]
  exact Rk.mk (d := { d with ops := d.ops + 1, pend := [], lasting := d.files }) (lv := .slice A (ofFS d.files).length c) (pv := .slice none 0 0) ((h5.nth 2 rfl).nth 2 rfl)
end
end Go.Proofs.Ytlngljhinboglaa.DkI
