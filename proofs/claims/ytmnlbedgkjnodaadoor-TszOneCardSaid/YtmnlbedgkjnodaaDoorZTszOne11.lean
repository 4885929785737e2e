/- More words for a walk's memory (see Sl): rows with room, appends in a region that draws, a call that panics in one.
   What the calls of the codec's decoder come to: get, time, value.
   What the calls of the document's reader of points come to. -/
import Derived.Test.YtmnlbedgkjnodaaDoorZTszOne6
import Derived.Test.YtmnlbedgkjnodaaDoorZTszOne7
import Derived.Test.YtmnlbedgkjnodaaDoorZTszOne10
import Derived.WalkLawsBesides
set_option linter.unusedSimpArgs false
set_option linter.unusedVariables false
namespace Go.Proofs.YtmnlbedgkjnodaaDoor.Sl
open Go.RowKit Go.Proofs.YtmnlbedgkjnodaaDoorW.PrintWords Go.Proofs.YtmnlbedgkjnodaaDoorW.PrintLast Go.Proofs.YtmnlbedgkjnodaaDoorW.PrintMore
theorem Sat.madeRow {α : Type} {w0 w : World} {L : List Asn} (d : Kd α) (e : Nat) (c : Nat) (cells : Array Value) (hc : c ≤ maxLen) (hsz : cells.size = c * d.sz) (h : Sat w0 w L) : Sat w0 (w.alloc (.cells cells e)) (Row d e (.slice (some ⟨w.heap.size, 0, none⟩) 0 c) ([] : List α) :: L) := by
  refine h.push (below_alloc (Below.refl _ _) _) (G' := fun k => k = w.heap.size) ⟨fun k hk => ?_, [], ?_, Reps.none _ _⟩ (fun k hk => by subst hk; simp)
  · have : w.heap.size = k := by simpa [Value.ownBlock] using hk
    exact this.symm
  · exact World.ownsRow_made w cells c h.size hc hsz
section
variable {P : Program} {ops : Array Oper} {o : Oper} {a : Act} {Q : Exit → Act → World → Prop} {Kc : Act → World → Prop} {α : Type}
theorem Sat.appendStep (d : Kd α) {w0 W : World} {L : List Asn} (hw : Region.wanted o (yielded ops a.tmps) = true) (s x : Operand) (t e : TypeId) (z : Value) (bytes : Nat)
    (ho : o.op = .call { callee := .builtin .append, args := #[s, x], argTypes := #[t, t] })
    (ht : P.underlying t = some (.slice e)) (hinfo : (P.info? e).map (fun i => (i.zero, i.size, i.bytes)) = some (some z, d.sz, bytes)) (hz : z.cells.size = d.sz) (hs0 : 0 < d.sz) (hb0 : 0 < bytes)
    (v : Value) (xs : List α) (p : α) (cs : List Value) (hs : a.eval s = v) (hx : a.eval x = .slice (some ⟨W.heap.size, 0, none⟩) 1 1) (hp : d.M W w0.heap.size (fun _ => False) p cs)
    (HS : Sat w0 W (Row d e v xs :: L)) (hl : (xs.length + 1) * bytes ≤ 140737488355328)
    (h : ∀ v1 w1, Sat w0 w1 (Row d e v1 (xs ++ [p]) :: L) → W.heap.size ≤ w1.heap.size → Kc (a.put o.dst v1) w1) :
    if Region.wanted o (yielded ops a.tmps) = true then Oper.wp P o a (W.alloc (.cells cs.toArray e)) Kc Q else Kc (a.put o.dst undef) (W.alloc (.cells cs.toArray e)) := by
  obtain ⟨G, h1, h2, h3⟩ := HS.seps
  refine Kd.R_append_step d w0.heap.size hw s x t e z bytes ho ht hinfo hz hs0 hb0 v xs p cs (fun k => G k ∨ W.heap.size ≤ k) (fun _ => False) hs hx hp (fun _ hk => hk.elim) (fun _ hk => .inr hk)
    (Kd.R_mono h1 (fun _ hk => .inl hk)) HS.below HS.size hl ?_
  intro v1 w1 hR hB hg _
  exact h v1 w1 (Sat.grew HS.below h2 h3 hR hB hg (fun k hk => h1.1 k hk)) hg.size
theorem goesP_ {oi : Oper} {N : Option Tmp} {w : World} {K : Act → World → Prop} {f : FuncId} {fn : Func} {as_ : Array Operand} {ts : Array TypeId} (hf : P.funcs[f]? = some fn) (hname : (fn.name == "runtime.NumGoroutine") = false) (hb : fn.body.isSome = true) (args : Array Value)
    (hw : Region.wanted oi (yielded ops a.tmps) = true) (hop : oi.op = .call { callee := .value (.func f), args := as_, argTypes := ts }) (hargs : as_.map a.eval = args) (chain : List PanicEntry)
    (h : Calls P f args w fun e w' => e = .panicked chain ∧ Q (.panic chain) a w') : if Region.wanted oi (yielded ops a.tmps) = true then Oper.wp P oi a w K Q else K (a.put N undef) w := by
  rw [if_pos hw]
  have he := enters_ hf hname hb args w
  have hrun : (execOp a.eval oi).run P w = .ok (.enter f args) w := by
    unfold execOp
    simp [hop, resolve, Deferred.ofValue, invoke, Act.eval, hargs, he]
  unfold Oper.wp
  rw [hrun, Oper.upon_enter]
  refine h.mono ?_
  rintro e w' ⟨rfl, hq⟩
  exact hq
end
end Go.Proofs.YtmnlbedgkjnodaaDoor.Sl
namespace Go.Proofs.YtmnlbedgkjnodaaDoor.TdW
open Go.RowKit Go.Proofs.YtmnlbedgkjnodaaDoorW.PrintWords Go.Proofs.YtmnlbedgkjnodaaDoorW.PrintLast Go.Proofs.YtmnlbedgkjnodaaDoorW.PrintMore Go.Proofs.YtmnlbedgkjnodaaDoor.QB Go.Proofs.YtmnlbedgkjnodaaDoor.Sl Go.Proofs.YtmnlbedgkjnodaaDoor.Bt Go.Proofs.YtmnlbedgkjnodaaDoor.WrW Go.Proofs.YtmnlbedgkjnodaaDoor.RdW Go.Proofs.YtmnlbedgkjnodaaDoor.TzP Go.Proofs.YtmnlbedgkjnodaaDoor.TzW Go.Proofs.YtmnlbedgkjnodaaDoor.TeP Go.Proofs.YtmnlbedgkjnodaaDoor.TdP Go.Proofs.YtmnlbedgkjnodaaDoor.Ld
attribute [local go_sem] max2_int min2_int max_two min_two
def wrongE : PanicEntry := { v := .iface 63 (.agg #[]), recovered := false }
set_option maxHeartbeats 2000000 in
set_option maxRecDepth 100000 in
theorem dget_ok (w0 w : World) (L : List Asn) (g : Nat) (b : List Int) (p : Nat) (n : Int) (m : Nat) (hm : cutN n = m) (hb : b.length ≤ 1099511627776) (hby : ∀ x ∈ b, 0 ≤ x ∧ x < 256) (hp : p ≤ 8 * b.length) (hle : m ≤ 8 * b.length - p) (h : Sat w0 w (Rd g b p :: L)) :
    Calls Tryd.prog 53 #[.agg #[.pointer (some ⟨g, 0, none⟩)], .int .i64 n] w fun e w' => e = .returned (.int .u64 ((getN b p m : Nat) : Int)) ∧ Sat w0 w' (Rd g b (p + m) :: L) := by
  subst hm
  have H1 := Aside0.mk (show Sat w0 _ (Rd g b p :: Blk w.heap.size #[.pointer (some ⟨g, 0, none⟩)] 70 :: L) from (h.newBlk #[.pointer (some ⟨g, 0, none⟩)] 70).nth 1 rfl)
  have HBY := Aside0.mk hby
  clear h hby
  go_enter Tryd.func53, Tryd.ntmps53
  go_upto_region 1 with (fail)
  generalize w.alloc (.cells #[.pointer (some ⟨g, 0, none⟩)] 70) = w1 at H1 ⊢
  have k0 := (H1.out.nth 1 rfl).cell 0 (v := .pointer (some ⟨g, 0, none⟩)) rfl
  go_wp2_with (first | (go_at_call 59; go_loud ((with_reducible refine (Get_ok w0 w1 _ g b p n hb HBY.out hp hle H1.out).mono ?_); rintro e w2 ⟨rfl, hs⟩; have H2 := Aside0.mk hs; clear hs)))
  go_ret
  exact ⟨rfl, ((show Sat w0 w2 (Rd g b (p + cutN n) :: Blk w.heap.size _ 70 :: L) from H2.out).nth 1 rfl).tail⟩
set_option maxHeartbeats 2000000 in
set_option maxRecDepth 100000 in
theorem dget_bad (w0 w : World) (L : List Asn) (g : Nat) (b : List Int) (p : Nat) (n : Int) (m : Nat) (hm : cutN n = m) (hb : b.length ≤ 1099511627776) (hp : p ≤ 8 * b.length) (hle : ¬ m ≤ 8 * b.length - p) (h : Sat w0 w (Rd g b p :: L)) :
    Calls Tryd.prog 53 #[.agg #[.pointer (some ⟨g, 0, none⟩)], .int .i64 n] w fun e w' => e = .panicked [wrongE] ∧ Sat w0 w' (Rd g b p :: L) := by
  subst hm
  have H1 := Aside0.mk (show Sat w0 _ (Rd g b p :: Blk w.heap.size #[.pointer (some ⟨g, 0, none⟩)] 70 :: L) from (h.newBlk #[.pointer (some ⟨g, 0, none⟩)] 70).nth 1 rfl)
  clear h
  go_enter Tryd.func53, Tryd.ntmps53
  go_upto_region 1 with (fail)
  generalize w.alloc (.cells #[.pointer (some ⟨g, 0, none⟩)] 70) = w1 at H1 ⊢
  have k0 := (H1.out.nth 1 rfl).cell 0 (v := .pointer (some ⟨g, 0, none⟩)) rfl
  go_wp2_with (first | (go_at_call 59; go_loud ((with_reducible refine (Get_none w0 w1 _ g b p n hb hp hle H1.out).mono ?_); rintro e w2 ⟨rfl, hs⟩; have H2 := Aside0.mk hs; clear hs)))
  exact ⟨rfl, rfl, ((show Sat w0 w2 (Rd g b p :: Blk w.heap.size _ 70 :: L) from H2.out).nth 1 rfl).tail⟩
def POut {β : Type} (o : Option (β × Nat)) (val : β → Value) (w0 : World) (L : List Asn) (g : Nat) (b : List Int) (e : Ending) (w' : World) : Prop :=
  match o with
  | some r => e = .returned (val r.1) ∧ Sat w0 w' (Rd g b r.2 :: L)
  | none => e = .panicked [wrongE] ∧ ∃ q, Sat w0 w' (Rd g b q :: L)
theorem POut.ok {β : Type} {o : Option (β × Nat)} {val : β → Value} {w0 : World} {L : List Asn} {g : Nat} {b : List Int} {e : Ending} {w' : World} {x : β} {p : Nat} (ho : o = some (x, p)) (he : e = .returned (val x)) (hs : Sat w0 w' (Rd g b p :: L)) : POut o val w0 L g b e w' := by
  subst ho
  exact ⟨he, hs⟩
theorem POut.bad {β : Type} {o : Option (β × Nat)} {val : β → Value} {w0 : World} {L : List Asn} {g : Nat} {b : List Int} {e : Ending} {w' : World} {q : Nat} (ho : o = none) (he : e = .panicked [wrongE]) (hs : Sat w0 w' (Rd g b q :: L)) : POut o val w0 L g b e w' := by
  subst ho
  exact ⟨he, q, hs⟩
theorem gb_ok {b : List Int} {p n : Nat} (h : n ≤ 8 * b.length - p) : gb b p n = some (getN b p n, p + n) := by unfold gb; rw [if_pos h]
theorem gb_bad {b : List Int} {p n : Nat} (h : ¬ n ≤ 8 * b.length - p) : gb b p n = none := by unfold gb; rw [if_neg h]
theorem getN_one_lt (b : List Int) (p : Nat) : getN b p 1 < 2 := getN_lt b p 1 (by omega)
theorem form_dec (k : Nat) (hk : k < 3) : ∃ h n lo z : Nat, rd_T88 formsL (k : Int) = ⟨(h : Int), (n : Int), (lo : Int), (z : Int)⟩ ∧ lo ≤ 2047 ∧ z ≤ 12 ∧ (∀ (b : List Int) (p : Nat), timeGo b (formsP.drop k) p = (gb b p 1).bind fun r => if r.1 = 0 then (gb b r.2 z).map fun u => ((u.1 : Int) - lo, u.2) else timeGo b (formsP.drop (k + 1)) r.2) := by
  rcases k with _ | _ | _ | k
  · exact ⟨2, 2, 63, 7, rfl, by omega, by omega, fun _ _ => rfl⟩
  · exact ⟨6, 3, 255, 9, rfl, by omega, by omega, fun _ _ => rfl⟩
  · exact ⟨14, 4, 2047, 12, rfl, by omega, by omega, fun _ _ => rfl⟩
  · omega
theorem timeGo_end (b : List Int) (p : Nat) : timeGo b (formsP.drop 3) p = (gb b p 64).map fun r => (wrap64 (r.1 : Int), r.2) := rfl
def Dt.T7 : Bool × List (List Nat × List Nat) := (true, [([], []), ([], []), ([1], [1]), ([0, 2], [0, 2]), ([3], [3]), ([], []), ([5], [5]), ([4, 6], [4, 6]), ([7, 3, 0, 1, 2, 3, 4, 5, 6, 7], [7])])
def Dt.B7 : List Nat := [0, 0, 2, 7, 15, 0, 32, 127, 255]
theorem Dt.tab7 : rtab .any (opsOf Tryd.f54 7) = Dt.T7 := by kernel_rfl
theorem Dt.bits7 : waitsOk Dt.T7.2 Dt.B7 = true := by kernel_rfl
set_option maxHeartbeats 8000000 in
set_option maxRecDepth 100000 in
theorem dtime_calls (w0 w : World) (L : List Asn) (g : Nat) (b : List Int) (p : Nat) (hb : b.length ≤ 1099511627776) (hby : ∀ x ∈ b, 0 ≤ x ∧ x < 256) (hp : p ≤ 8 * b.length) (h : Sat w0 w (Rd g b p :: L)) :
    Calls Tryd.prog 54 #[.agg #[.pointer (some ⟨g, 0, none⟩)]] w (POut (timeP b p) (fun x => .int .i64 x) w0 L g b) := by
  have H1 := Aside0.mk (show Sat w0 _ (Rd g b p :: Blk w.heap.size #[.pointer (some ⟨g, 0, none⟩)] 70 :: L) from (h.newBlk #[.pointer (some ⟨g, 0, none⟩)] 70).nth 1 rfl)
  have HBY := Aside0.mk hby
  clear h hby
  by_cases hg1 : 1 ≤ 8 * b.length - p
  rotate_left
  · have HO := Aside0.mk (show timeP b p = none from by unfold timeP; rw [gb_bad hg1]; rfl)
    go_enter Tryd.func54, Tryd.ntmps54
    go_upto_region 1 with (fail)
    generalize w.alloc (.cells #[.pointer (some ⟨g, 0, none⟩)] 70) = w1 at H1 ⊢
    generalize w.heap.size = gd at H1 ⊢
    have k0 := (H1.out.nth 1 rfl).cell 0 (v := .pointer (some ⟨g, 0, none⟩)) rfl
    go_wp2_with (first | (go_at_call 53; go_loud ((with_reducible refine (dget_bad w0 w1 _ g b p 1 1 rfl hb hp hg1 H1.out).mono ?_); rintro e w2 ⟨rfl, hs⟩; have H2 := Aside0.mk hs; clear hs)))
    refine ⟨rfl, POut.bad HO.out rfl (q := p) ?_⟩
    exact ((show Sat w0 w2 (Rd g b p :: Blk gd _ 70 :: L) from H2.out).nth 1 rfl).tail
  obtain ⟨v, hv⟩ : ∃ v, getN b p 1 = v := ⟨_, rfl⟩
  have hv2 := getN_one_lt b p
  rw [hv] at hv2
  have HV := Aside0.mk hv
  by_cases hv0 : v = 0
  · subst hv0
    have HO := Aside0.mk (show timeP b p = some (0, p + 1) from by unfold timeP; rw [gb_ok hg1, hv]; rfl)
    clear hv
    go_enter Tryd.func54, Tryd.ntmps54
    go_upto_region 1 with (fail)
    generalize w.alloc (.cells #[.pointer (some ⟨g, 0, none⟩)] 70) = w1 at H1 ⊢
    generalize w.heap.size = gd at H1 ⊢
    have k0 := (H1.out.nth 1 rfl).cell 0 (v := .pointer (some ⟨g, 0, none⟩)) rfl
    go_wp2_with (first | (go_at_call 53; go_loud ((with_reducible refine (dget_ok w0 w1 _ g b p 1 1 rfl hb HBY.out hp hg1 H1.out).mono ?_); rintro e w2 ⟨rfl, hs⟩; rw [HV.out]; have H2 := Aside0.mk hs; clear hs)))
    go_ret
    refine POut.ok HO.out rfl ?_
    exact ((show Sat w0 w2 (Rd g b (p + 1) :: Blk gd _ 70 :: L) from H2.out).nth 1 rfl).tail
  have HO := Aside0.mk (show timeP b p = timeGo b (formsP.drop 0) (p + 1) from by unfold timeP; rw [gb_ok hg1, hv]; simp only [Option.bind_some]; rw [if_neg hv0]; rfl)
  have dv : ((v : Int) == 0) = false := by rw [beq_eq_false_iff_ne]; omega
  have hp1 : p + 1 ≤ 8 * b.length := by omega
  clear hv
  go_enter Tryd.func54, Tryd.ntmps54
  go_upto_region 1 with (fail)
  generalize w.alloc (.cells #[.pointer (some ⟨g, 0, none⟩)] 70) = w1 at H1 ⊢
  generalize w.heap.size = gd at H1 ⊢
  have k0 := (H1.out.nth 1 rfl).cell 0 (v := .pointer (some ⟨g, 0, none⟩)) rfl
  go_wp2_with (first | (go_at_call 53; go_loud ((with_reducible refine (dget_ok w0 w1 _ g b p 1 1 rfl hb HBY.out hp hg1 H1.out).mono ?_); rintro e w2 ⟨rfl, hs⟩; rw [HV.out]; have H2 := Aside0.mk hs; clear hs)) | (go_at_call 45; go_loud ((with_reducible refine (tsz_forms.calls formsL w2 rfl).mono ?_); rintro e w3 ⟨v0, rfl, hr, hb1⟩; have hs1 := H2.out.made hb1 hr; obtain ⟨A1, c1, hv1, _, _⟩ := hs1.rowSlice; subst hv1; have HS1 := Aside0.mk (show Sat w0 w3 (Rd g b (p + 1) :: Row k88 88 (.slice A1 formsL.length c1) formsL :: Blk gd #[.pointer (some ⟨g, 0, none⟩)] 70 :: L) from hs1.nth 1 rfl); clear hs1 hr hb1)))
  clear k0 H1 H2 HV
  go_loopw [10] (fun v10 wr => ∃ k q : Nat, k ≤ 3 ∧ v10 = .int .i64 k ∧ q ≤ 8 * b.length ∧ Aside0 (timeP b p = timeGo b (formsP.drop k) q) ∧ Aside0 (Sat w0 wr (Rd g b q :: Row k88 88 (.slice A1 formsL.length c1) formsL :: Blk gd #[.pointer (some ⟨g, 0, none⟩)] 70 :: L))) (fun v10 _ => 3 - (intOf v10).toNat)
  case atStart => exact ⟨0, p + 1, by omega, rfl, hp1, HO, HS1⟩
  case round =>
    obtain ⟨k, q, hk, rfl, hq, HT, HR⟩ := hrel
    clear HS1 HO
    have hfl : formsL.length = 3 := rfl
    by_cases hlt : k < 3
    · have d1 : decide ((k : Int) < (formsL.length : Int)) = true := decide_eq_true (by rw [hfl]; omega)
      have d2 : decide (k < formsL.length) = true := decide_eq_true (by rw [hfl]; omega)
      obtain ⟨h, n, lo, z, hrd, hlo, hzz, htg⟩ := form_dec k hlt
      obtain ⟨ad, rfl, c0, c1_, c2, c3⟩ := at_T88 (show Kd.C k88 wr A1 formsL.length formsL from (HR.out.nth 1 rfl).rowC) (k : Int) (by omega) (by rw [hfl]; omega)
      rw [hrd] at c0 c1_ c2 c3
      simp only [Int.toNat_natCast] at c0 c1_ c2 c3
      have HNB := Aside0.mk (HR.out.newBlk #[.int .u64 h, .int .i64 n, .int .i64 lo, .int .i64 z] 88)
      have hk0 : (0 : Int) ≤ (k : Int) := by omega
      have hk1 : (k : Int) < (formsL.length : Int) := by rw [hfl]; omega
      have hk2 : k < formsL.length := by rw [hfl]; omega
      have HTG := Aside0.mk (htg b q)
      have HCZ := Aside0.mk (cutN_nat z (by omega))
      clear hrd hfl HR htg
      go_upto_region 6 with (fail)
      generalize hwn : wr.alloc (.cells #[.int .u64 h, .int .i64 n, .int .i64 lo, .int .i64 z] 88) = w5 at HNB ⊢
      generalize wr.heap.size = g5 at HNB ⊢
      clear hwn c0 c1_ c2 c3 d1 d2 hk0 hk1 hk2
      have H5 := Aside0.mk (show Sat w0 w5 (Rd g b q :: Blk g5 #[.int .u64 h, .int .i64 n, .int .i64 lo, .int .i64 z] 88 :: Row k88 88 (.slice (some ad) formsL.length c1) formsL :: Blk gd #[.pointer (some ⟨g, 0, none⟩)] 70 :: L) from HNB.out.nth 1 rfl)
      clear HNB
      have k0 := (H5.out.nth 3 rfl).cell 0 (v := .pointer (some ⟨g, 0, none⟩)) rfl
      by_cases hgq : 1 ≤ 8 * b.length - q
      rotate_left
      · have HO := Aside0.mk (show timeP b p = none from by rw [HT.out, HTG.out, gb_bad hgq]; rfl)
        go_wp2_with (first | (go_at_call 53; go_loud ((with_reducible refine (dget_bad w0 w5 _ g b q 1 1 rfl hb hq hgq H5.out).mono ?_); rintro e w6 ⟨rfl, hs⟩; have H6 := Aside0.mk hs; clear hs)))
        refine ⟨rfl, POut.bad HO.out rfl (q := q) ?_⟩
        exact (((((show Sat w0 w6 (Rd g b q :: Blk g5 _ 88 :: Row k88 88 _ formsL :: Blk gd _ 70 :: L) from H6.out).nth 1 rfl).tail.nth 1 rfl).tail).nth 1 rfl).tail
      obtain ⟨u, hu⟩ : ∃ u, getN b q 1 = u := ⟨_, rfl⟩
      have hu2 := getN_one_lt b q
      rw [hu] at hu2
      have HU := Aside0.mk hu
      by_cases hu0 : u = 0
      · subst hu0
        obtain ⟨q2, hq2e⟩ : ∃ q2, q + 1 = q2 := ⟨_, rfl⟩
        have hq2 : q2 ≤ 8 * b.length := by omega
        have HO := Aside0.mk (show timeP b p = (gb b q2 z).map fun u => ((u.1 : Int) - lo, u.2) from by rw [HT.out, HTG.out, gb_ok hgq, hu, hq2e]; rfl)
        clear hu
        go_wp2_with (first | (go_at_call 53; go_loud ((with_reducible refine (dget_ok w0 w5 _ g b q 1 1 rfl hb HBY.out hq hgq H5.out).mono ?_); rintro e w6 ⟨rfl, hs⟩; rw [HU.out]; have H6 := Aside0.mk hs; clear hs)))
        rw [hq2e] at H6
        have HD := Aside0.mk (show Sat w0 w6.drew (Rd g b q2 :: Blk g5 #[.int .u64 h, .int .i64 n, .int .i64 lo, .int .i64 z] 88 :: Row k88 88 (.slice (some ad) formsL.length c1) formsL :: Blk gd #[.pointer (some ⟨g, 0, none⟩)] 70 :: L) from H6.out.drew)
        have q0 := (HD.out.nth 3 rfl).cell 0 (v := .pointer (some ⟨g, 0, none⟩)) rfl
        have q2_ := (HD.out.nth 1 rfl).cell 2 (v := .int .i64 lo) rfl
        have q3_ := (HD.out.nth 1 rfl).cell 3 (v := .int .i64 z) rfl
        clear k0 H5 H6 HT HTG HU
        by_cases hgz : z ≤ 8 * b.length - q2
        · have hgl := getN_lt b q2 z (by omega)
          have hgl2 : getN b q2 z < 4096 := Nat.lt_of_lt_of_le hgl (Nat.le_trans (Nat.pow_le_pow_right (by omega) (show z ≤ 12 by omega)) (by omega))
          obtain ⟨r, hr⟩ : ∃ r, getN b q2 z = r := ⟨_, rfl⟩
          rw [hr] at hgl2
          have HO2 := Aside0.mk (show timeP b p = some ((r : Int) - lo, q2 + z) from by rw [HO.out, gb_ok hgz, hr]; rfl)
          have HGR := Aside0.mk hr
          have ew : IntKind.i64.wrap (r : Int) = (r : Int) := by rw [IntKind.wrap_i64]; omega
          have ew2 : IntKind.i64.wrap ((r : Int) - (lo : Int)) = (r : Int) - (lo : Int) := by rw [IntKind.wrap_i64]; omega
          clear hr hgl
          refine start_ (n := 9) (S := fun w' => w'.cell? ⟨gd, 0, none⟩ = some (.pointer (some ⟨g, 0, none⟩)) ∧ w'.cell? ⟨g5, 2, none⟩ = some (.int .i64 lo) ∧ w'.cell? ⟨g5, 3, none⟩ = some (.int .i64 z)) (ds := []) #[false, false, false, false, false, false, false, false, false] (by kernel_rfl) rfl rfl ⟨q0, q2_, q3_⟩ (fun hHeld => ?_)
          refine with_tabW Dt.tab7 Dt.bits7 (fun HT_ HW_ => ?_)
          refine pure_ (i := 1) (N := some 18) (v := ?_) (a' := ?_) #[false, true, false, false, false, false, false, false, false] rfl rfl (any_of HT_.out (by kernel_rfl)) (fun _ _ _ h => h) (Or.inl ⟨by rfl, ?_⟩) ?_ ?_
          rotate_left
          · intro w'
            go_simp
            with_reducible rfl
          rotate_left
          · simp only [Act.put, List.setIfInBounds_toArray, List.set_cons_zero, List.set_cons_succ, i64_w, i32_w]
            rfl
          refine pure_ (i := 5) (N := some 22) (v := ?_) (a' := ?_) #[false, true, false, false, false, true, false, false, false] rfl rfl (any_of HT_.out (by kernel_rfl)) (fun _ _ _ h => h) (Or.inl ⟨by rfl, ?_⟩) ?_ ?_
          rotate_left
          · intro w'
            go_simp
            with_reducible rfl
          rotate_left
          · simp only [Act.put, List.setIfInBounds_toArray, List.set_cons_zero, List.set_cons_succ, i64_w, i32_w]
            rfl
          refine take_ (i := 0) (N := some 17) (v := ?_) (a' := ?_) #[true, true, false, false, false, true, false, false, false] rfl rfl (take_ofW HT_.out HW_.out (by kernel_rfl)) (fun _ _ _ h => h) (Or.inl ⟨by rfl, ?_⟩) hHeld ?_ ?_
          rotate_left
          · rintro w' ⟨s0, s1, s2⟩
            go_simp
            with_reducible rfl
          rotate_left
          · simp only [Act.put, List.setIfInBounds_toArray, List.set_cons_zero, List.set_cons_succ, i64_w, i32_w]
            rfl
          refine take_ (i := 2) (N := some 19) (v := ?_) (a' := ?_) #[true, true, true, false, false, true, false, false, false] rfl rfl (take_ofW HT_.out HW_.out (by kernel_rfl)) (fun _ _ _ h => h) (Or.inl ⟨by rfl, ?_⟩) hHeld ?_ ?_
          rotate_left
          · rintro w' ⟨s0, s1, s2⟩
            go_simp
            with_reducible rfl
          rotate_left
          · simp only [Act.put, List.setIfInBounds_toArray, List.set_cons_zero, List.set_cons_succ, i64_w, i32_w]
            rfl
          refine take_ (i := 6) (N := some 23) (v := ?_) (a' := ?_) #[true, true, true, false, false, true, true, false, false] rfl rfl (take_ofW HT_.out HW_.out (by kernel_rfl)) (fun _ _ _ h => h) (Or.inl ⟨by rfl, ?_⟩) hHeld ?_ ?_
          rotate_left
          · rintro w' ⟨s0, s1, s2⟩
            go_simp
            with_reducible rfl
          rotate_left
          · simp only [Act.put, List.setIfInBounds_toArray, List.set_cons_zero, List.set_cons_succ, i64_w, i32_w]
            rfl
          refine one_ (i := 3) (N := some 20) #[true, true, true, true, false, true, true, false, false] rfl rfl (one_of HT_.out (by kernel_rfl)) (by decide) (fun K hK => ?_)
          refine goes_ Tryd.func53 (by kernel_rfl) rfl #[.agg #[.pointer (some ⟨g, 0, none⟩)], .int .i64 (z : Nat)] (by rfl) rfl rfl (by simp only [List.map_toArray, List.map_cons, List.map_nil]; rfl) ?_
          with_reducible refine (dget_ok w0 _ _ g b q2 (z : Int) z HCZ.out hb HBY.out hq2 hgz HD.out).mono ?_
          rintro e w7 ⟨rfl, hs7⟩
          refine ⟨_, rfl, ?_⟩
          rw [HGR.out]
          have HS7 := Aside0.mk hs7
          clear hs7
          have p0 := (HS7.out.nth 3 rfl).cell 0 (v := .pointer (some ⟨g, 0, none⟩)) rfl
          have p2 := (HS7.out.nth 1 rfl).cell 2 (v := .int .i64 lo) rfl
          have p3 := (HS7.out.nth 1 rfl).cell 3 (v := .int .i64 z) rfl
          refine hK.out _ _ ⟨p0, p2, p3⟩ (fun hHeld => ?_)
          clear hK K
          refine norm_ (a' := ?_) ?_ ?_
          rotate_left
          · show Act.put _ (some 20) _ = _
            simp only [Act.put, List.setIfInBounds_toArray, List.set_cons_zero, List.set_cons_succ, i64_w, i32_w]
            rfl
          refine take_ (i := 4) (N := some 21) (v := ?_) (a' := ?_) #[true, true, true, true, true, true, true, false, false] rfl rfl (take_ofW HT_.out HW_.out (by kernel_rfl)) (fun _ _ _ h => h) (Or.inl ⟨by rfl, ?_⟩) hHeld ?_ ?_
          rotate_left
          · rintro w' ⟨s0, s1, s2⟩
            go_simp
            with_reducible rfl
          rotate_left
          · simp only [Act.put, List.setIfInBounds_toArray, List.set_cons_zero, List.set_cons_succ, i64_w, i32_w]
            rfl
          refine pure_ (i := 7) (N := some 24) (v := ?_) (a' := ?_) #[true, true, true, true, true, true, true, true, false] rfl rfl (any_of HT_.out (by kernel_rfl)) (fun _ _ _ h => h) (Or.inl ⟨by rfl, ?_⟩) ?_ ?_
          rotate_left
          · intro w'
            go_simp
            with_reducible rfl
          rotate_left
          · simp only [Act.put, List.setIfInBounds_toArray, List.set_cons_zero, List.set_cons_succ, i64_w, i32_w]
            rfl
          refine pure_ (i := 8) (N := some 2) (v := ?_) (a' := ?_) #[true, true, true, true, true, true, true, true, true] rfl rfl (any_of HT_.out (by kernel_rfl)) (fun _ _ _ h => h) (Or.inl ⟨by rfl, ?_⟩) ?_ ?_
          rotate_left
          · intro w'
            go_simp
            with_reducible rfl
          rotate_left
          · simp only [Act.put, List.setIfInBounds_toArray, List.set_cons_zero, List.set_cons_succ, i64_w, i32_w]
            rfl
          refine done_ (done_of HT_.out (by kernel_rfl)) ?_
          go_wp2
          go_ret
          refine POut.ok HO2.out rfl ?_
          exact (((((show Sat w0 w7 (Rd g b (q2 + z) :: Blk g5 _ 88 :: Row k88 88 _ formsL :: Blk gd _ 70 :: L) from HS7.out).nth 1 rfl).tail.nth 1 rfl).tail).nth 1 rfl).tail
        · have HO2 := Aside0.mk (show timeP b p = none from by rw [HO.out, gb_bad hgz]; rfl)
          refine start_ (n := 9) (S := fun w' => w'.cell? ⟨gd, 0, none⟩ = some (.pointer (some ⟨g, 0, none⟩)) ∧ w'.cell? ⟨g5, 2, none⟩ = some (.int .i64 lo) ∧ w'.cell? ⟨g5, 3, none⟩ = some (.int .i64 z)) (ds := []) #[false, false, false, false, false, false, false, false, false] (by kernel_rfl) rfl rfl ⟨q0, q2_, q3_⟩ (fun hHeld => ?_)
          refine with_tabW Dt.tab7 Dt.bits7 (fun HT_ HW_ => ?_)
          refine pure_ (i := 1) (N := some 18) (v := ?_) (a' := ?_) #[false, true, false, false, false, false, false, false, false] rfl rfl (any_of HT_.out (by kernel_rfl)) (fun _ _ _ h => h) (Or.inl ⟨by rfl, ?_⟩) ?_ ?_
          rotate_left
          · intro w'
            go_simp
            with_reducible rfl
          rotate_left
          · simp only [Act.put, List.setIfInBounds_toArray, List.set_cons_zero, List.set_cons_succ, i64_w, i32_w]
            rfl
          refine pure_ (i := 5) (N := some 22) (v := ?_) (a' := ?_) #[false, true, false, false, false, true, false, false, false] rfl rfl (any_of HT_.out (by kernel_rfl)) (fun _ _ _ h => h) (Or.inl ⟨by rfl, ?_⟩) ?_ ?_
          rotate_left
          · intro w'
            go_simp
            with_reducible rfl
          rotate_left
          · simp only [Act.put, List.setIfInBounds_toArray, List.set_cons_zero, List.set_cons_succ, i64_w, i32_w]
            rfl
          refine take_ (i := 0) (N := some 17) (v := ?_) (a' := ?_) #[true, true, false, false, false, true, false, false, false] rfl rfl (take_ofW HT_.out HW_.out (by kernel_rfl)) (fun _ _ _ h => h) (Or.inl ⟨by rfl, ?_⟩) hHeld ?_ ?_
          rotate_left
          · rintro w' ⟨s0, s1, s2⟩
            go_simp
            with_reducible rfl
          rotate_left
          · simp only [Act.put, List.setIfInBounds_toArray, List.set_cons_zero, List.set_cons_succ, i64_w, i32_w]
            rfl
          refine take_ (i := 2) (N := some 19) (v := ?_) (a' := ?_) #[true, true, true, false, false, true, false, false, false] rfl rfl (take_ofW HT_.out HW_.out (by kernel_rfl)) (fun _ _ _ h => h) (Or.inl ⟨by rfl, ?_⟩) hHeld ?_ ?_
          rotate_left
          · rintro w' ⟨s0, s1, s2⟩
            go_simp
            with_reducible rfl
          rotate_left
          · simp only [Act.put, List.setIfInBounds_toArray, List.set_cons_zero, List.set_cons_succ, i64_w, i32_w]
            rfl
          refine take_ (i := 6) (N := some 23) (v := ?_) (a' := ?_) #[true, true, true, false, false, true, true, false, false] rfl rfl (take_ofW HT_.out HW_.out (by kernel_rfl)) (fun _ _ _ h => h) (Or.inl ⟨by rfl, ?_⟩) hHeld ?_ ?_
          rotate_left
          · rintro w' ⟨s0, s1, s2⟩
            go_simp
            with_reducible rfl
          rotate_left
          · simp only [Act.put, List.setIfInBounds_toArray, List.set_cons_zero, List.set_cons_succ, i64_w, i32_w]
            rfl
          refine one_ (i := 3) (N := some 20) #[true, true, true, true, false, true, true, false, false] rfl rfl (one_of HT_.out (by kernel_rfl)) (by decide) (fun K hK => ?_)
          refine goesP_ Tryd.func53 (by kernel_rfl) rfl #[.agg #[.pointer (some ⟨g, 0, none⟩)], .int .i64 (z : Nat)] (by rfl) rfl (by simp only [List.map_toArray, List.map_cons, List.map_nil]; rfl) [wrongE] ?_
          with_reducible refine (dget_bad w0 _ _ g b q2 (z : Int) z HCZ.out hb hq2 hgz HD.out).mono ?_
          rintro e w7 ⟨rfl, hs7⟩
          refine ⟨rfl, ?_⟩
          have HS7 := Aside0.mk hs7
          clear hs7
          refine ⟨rfl, POut.bad HO2.out rfl (q := q2) ?_⟩
          exact (((((show Sat w0 w7 (Rd g b q2 :: Blk g5 _ 88 :: Row k88 88 _ formsL :: Blk gd _ 70 :: L) from HS7.out).nth 1 rfl).tail.nth 1 rfl).tail).nth 1 rfl).tail
      · have du : ((u : Int) == 0) = false := by rw [beq_eq_false_iff_ne]; omega
        have HO := Aside0.mk (show timeP b p = timeGo b (formsP.drop (k + 1)) (q + 1) from by rw [HT.out, HTG.out, gb_ok hgq, hu]; simp only [Option.bind_some]; rw [if_neg hu0])
        clear hu HTG HT
        go_wp2_with (first | (go_at_call 53; go_loud ((with_reducible refine (dget_ok w0 w5 _ g b q 1 1 rfl hb HBY.out hq hgq H5.out).mono ?_); rintro e w6 ⟨rfl, hs⟩; rw [HU.out]; have H6 := Aside0.mk hs; clear hs)))
        go_roundw
        case measure => simp [intOf]; omega
        case rel => exact ⟨k + 1, q + 1, by omega, by go_num, by omega, HO, ⟨((show Sat w0 w6 (Rd g b (q + 1) :: Blk g5 _ 88 :: Row k88 88 _ formsL :: Blk gd _ 70 :: L) from H6.out).nth 1 rfl).tail⟩⟩
    · have d1 : decide ((k : Int) < (formsL.length : Int)) = false := decide_eq_false (by rw [hfl]; omega)
      have d2 : decide (k < formsL.length) = false := decide_eq_false (by rw [hfl]; omega)
      obtain rfl : k = 3 := by omega
      have k0 := (HR.out.nth 2 rfl).cell 0 (v := .pointer (some ⟨g, 0, none⟩)) rfl
      clear hfl
      by_cases hgq : 64 ≤ 8 * b.length - q
      · obtain ⟨r, hr⟩ : ∃ r, getN b q 64 = r := ⟨_, rfl⟩
        have HO := Aside0.mk (show timeP b p = some (wrap64 (r : Int), q + 64) from by rw [HT.out, timeGo_end, gb_ok hgq, hr]; rfl)
        have HGR := Aside0.mk hr
        clear hr HT
        go_wp2_with (first | (go_at_call 53; go_loud ((with_reducible refine (dget_ok w0 wr _ g b q 64 64 rfl hb HBY.out hq hgq HR.out).mono ?_); rintro e w6 ⟨rfl, hs⟩; rw [HGR.out]; have H6 := Aside0.mk hs; clear hs)))
        go_ret
        refine POut.ok HO.out rfl ?_
        exact (((show Sat w0 w6 (Rd g b (q + 64) :: Row k88 88 _ formsL :: Blk gd _ 70 :: L) from H6.out).nth 1 rfl).tail.nth 1 rfl).tail
      · have HO := Aside0.mk (show timeP b p = none from by rw [HT.out, timeGo_end, gb_bad hgq]; rfl)
        go_wp2_with (first | (go_at_call 53; go_loud ((with_reducible refine (dget_bad w0 wr _ g b q 64 64 rfl hb hq hgq HR.out).mono ?_); rintro e w6 ⟨rfl, hs⟩; have H6 := Aside0.mk hs; clear hs)))
        refine ⟨rfl, POut.bad HO.out rfl (q := q) ?_⟩
        exact (((show Sat w0 w6 (Rd g b q :: Row k88 88 _ formsL :: Blk gd _ 70 :: L) from H6.out).nth 1 rfl).tail.nth 1 rfl).tail
end Go.Proofs.YtmnlbedgkjnodaaDoor.TdW
namespace Go.Proofs.YtmnlbedgkjnodaaDoor.RfW
open Go.RowKit Go.Proofs.YtmnlbedgkjnodaaDoorW.PrintWords Go.Proofs.YtmnlbedgkjnodaaDoorW.PrintLast Go.Proofs.YtmnlbedgkjnodaaDoorW.PrintMore Go.Proofs.YtmnlbedgkjnodaaDoor.QB Go.Proofs.YtmnlbedgkjnodaaDoor.Sl Go.Proofs.YtmnlbedgkjnodaaDoor.Bt Go.Proofs.YtmnlbedgkjnodaaDoor.BtR Go.Proofs.YtmnlbedgkjnodaaDoor.WrW Go.Proofs.YtmnlbedgkjnodaaDoor.RdW Go.Proofs.YtmnlbedgkjnodaaDoor.TzP Go.Proofs.YtmnlbedgkjnodaaDoor.TeP Go.Proofs.YtmnlbedgkjnodaaDoor.TdP
def Rb (g : Nat) (l : List Int) (bad : Bool) : Asn := Ex fun v : Value => All [Blk g #[v, .bool bad] 76, RowQ (Kd.int .u8) 5 v l]
theorem get_raw (w0 w : World) (L : List Asn) (g : Nat) (l : List Int) (bad : Bool) (n : Nat) (hn : n ≤ 64) (hl : IsBits l) (hlen : l.length ≤ 8000000) (h : Sat w0 w (Rb g l bad :: L)) :
    Calls Tryd.prog 41 #[.pointer (some ⟨g, 0, none⟩), .int .i64 n] w fun e w' => e = .returned (.int .u64 ((if n ≤ l.length then num (l.take n) else 0 : Nat) : Int)) ∧ Sat w0 w' (Rb g (if n ≤ l.length then l.drop n else l) (if n ≤ l.length then bad else true) :: L) := by
  obtain ⟨v, h1⟩ := h.some_
  have h2 := h1.opened
  obtain ⟨A, c, rfl, hc⟩ := (h2.nth 1 rfl).rowQSome
  have x0 := h2.cell 0 (v := .slice A l.length c) rfl
  have HS := Aside0.mk (show Sat w0 w (RowQ (Kd.int .u8) 5 (.slice A l.length c) l :: Blk g #[.slice A l.length c, .bool bad] 76 :: L) from h2.nth 1 rfl)
  clear h h1 h2
  have hcn : cutN (n : Int) = n := by unfold cutN; omega
  by_cases hle : n ≤ l.length
  · rw [if_pos hle, if_pos hle, if_pos hle]
    have hg : thermographref03_Get.f 100 l (n : Int) = some (((num (l.take n) : Nat) : Int), l.drop n, true) := by
      have := ref_Get_ok (k := 100) (n := (n : Int)) hl (by omega) (by omega) (by rw [hcn]; exact hle)
      rwa [hcn] at this
    obtain ⟨ld, hld⟩ : ∃ ld, l.drop n = ld := ⟨_, rfl⟩
    obtain ⟨t, ht⟩ : ∃ t, num (l.take n) = t := ⟨_, rfl⟩
    rw [hld, ht] at hg
    rw [hld, ht]
    have HG := Aside0.mk hg
    obtain ⟨G, hG1, hG2, hG3⟩ := HS.out.viaKeptQ (d' := Kd.int .u8) (e' := 5)
    have HG1 := Aside0.mk hG1
    have HG3 := Aside0.mk hG3
    clear hG1 hG2 hG3 hcn hle hlen hld ht hg hl
    cases bad with
    | false =>
      go_enter Tryd.func41, Tryd.ntmps41
      go_wp2_with (first | (go_at_call 56; go_loud ((with_reducible refine (thermographref03_Get.callsQ 100 G _ l (n : Int) _ _ _ w0 w HS.out.below HG1.out HG.out).mono ?_); rintro e w8 ⟨v8, rfl, hr, hb, hk⟩; have hp8 := HG3.out w8 v8 _ hr hb hk; obtain ⟨A8, c8, rfl, _⟩ := hp8.rowQSome; have y0 := (hp8.nth 1 rfl).cell 0 rfl; have y1 := (hp8.nth 1 rfl).free 0; have hp9 := (hp8.nth 1 rfl).setBlk 0 (.slice A8 ld.length c8); have y2 := hp9.cell 1 rfl; have y3 := hp9.free 1; have HS9 := Aside0.mk (hp9.setBlk 1 (.bool false)); clear hp8 hp9 hr hb hk)))
      go_ret
      exact ⟨rfl, Sat.any (.slice A8 ld.length c8) (Sat.closed HS9.out)⟩
    | true =>
      go_enter Tryd.func41, Tryd.ntmps41
      go_wp2_with (first | (go_at_call 56; go_loud ((with_reducible refine (thermographref03_Get.callsQ 100 G _ l (n : Int) _ _ _ w0 w HS.out.below HG1.out HG.out).mono ?_); rintro e w8 ⟨v8, rfl, hr, hb, hk⟩; have hp8 := HG3.out w8 v8 _ hr hb hk; obtain ⟨A8, c8, rfl, _⟩ := hp8.rowQSome; have y0 := (hp8.nth 1 rfl).cell 0 rfl; have y1 := (hp8.nth 1 rfl).free 0; have hp9 := (hp8.nth 1 rfl).setBlk 0 (.slice A8 ld.length c8); have y2 := hp9.cell 1 rfl; have y3 := hp9.free 1; have HS9 := Aside0.mk (hp9.setBlk 1 (.bool true)); clear hp8 hp9 hr hb hk)))
      go_ret
      exact ⟨rfl, Sat.any (.slice A8 ld.length c8) (Sat.closed HS9.out)⟩
  · rw [if_neg hle, if_neg hle, if_neg hle]
    have HG := Aside0.mk (show thermographref03_Get.f 100 l (n : Int) = some (0, l, false) from ref_Get_none (by rw [hcn]; exact hle))
    obtain ⟨G, hG1, hG2, hG3⟩ := HS.out.viaKeptQ (d' := Kd.int .u8) (e' := 5)
    have HG1 := Aside0.mk hG1
    have HG3 := Aside0.mk hG3
    clear hG1 hG2 hG3 hcn hle hlen hl
    cases bad <;> (
      go_enter Tryd.func41, Tryd.ntmps41
      go_wp2_with (first | (go_at_call 56; go_loud ((with_reducible refine (thermographref03_Get.callsQ 100 G _ l (n : Int) _ _ _ w0 w HS.out.below HG1.out HG.out).mono ?_); rintro e w8 ⟨v8, rfl, hr, hb, hk⟩; have hp8 := HG3.out w8 v8 _ hr hb hk; obtain ⟨A8, c8, rfl, _⟩ := hp8.rowQSome; have y0 := (hp8.nth 1 rfl).cell 0 rfl; have y1 := (hp8.nth 1 rfl).free 0; have hp9 := (hp8.nth 1 rfl).setBlk 0 (.slice A8 l.length c8); have y2 := hp9.cell 1 rfl; have y3 := hp9.free 1; have HS9 := Aside0.mk (hp9.setBlk 1 (.bool true)); clear hp8 hp9 hr hb hk)))
      go_ret
      exact ⟨rfl, Sat.any (.slice A8 l.length c8) (Sat.closed HS9.out)⟩)
end Go.Proofs.YtmnlbedgkjnodaaDoor.RfW
