/- slices.BinarySearchFunc of layer 14, at the closure of maker.set.
   slices.Insert of layer 14, of one owner into a shard: a row of its own, in place or a new one. -/
import Derived.Test.YtmdebnfjhnhcjaaZPlacementEven1
import Derived.Deep.LoopGhost
import Derived.Test.YtmdebnfjhnhcjaaZPlacementEven7
import Derived.Test.YtmdebnfjhnhcjaaZPlacementEven6
import Derived.Lib.AppendZerosOnto
import Derived.Lib.AppendZeros
import Derived.Lib.Overlaps
import Derived.Laws.Externs
import Derived.Laws.CopyRow
import Derived.Deep.RegionLaw
import Derived.OwnWalk
namespace Go.Proofs.Ytmdebnfjhnhcjaa.PmB
open Go.RowKit Go.Proofs.YtmdebnfjhnhcjaaW.PrintWords Go.Proofs.YtmdebnfjhnhcjaaW.PrintLast Go.Proofs.YtmdebnfjhnhcjaaW.PrintMore Go.Proofs.Ytmdebnfjhnhcjaa.QB Go.Proofs.Ytmdebnfjhnhcjaa.Sl Go.Proofs.Ytmdebnfjhnhcjaa.PlI
set_option linter.unusedVariables false
set_option linter.unusedSimpArgs false
def cmpI (a n : Int) : Int := if a < n then -1 else if n < a then 1 else 0
set_option maxHeartbeats 8000000 in
set_option maxRecDepth 100000 in
theorem set1_calls (x : Ow) (n : Int) (w : World) :
    Calls Try.prog 74 #[.agg #[.int .i64 x.f0, .int .i64 x.f1, .int .i64 x.f2], .int .i64 n] w fun e w2 => e = .returned (.int .i64 (cmpI x.f0 n)) ∧ Below w.heap.size w w2 := by
  have HB := Aside0.mk (below_alloc (Below.refl w.heap.size w) (.cells #[.int .i64 x.f0, .int .i64 x.f1, .int .i64 x.f2] 41))
  have hc := Aside0.mk (show cmpI x.f0 n = if x.f0 < n then -1 else if n < x.f0 then 1 else 0 from rfl)
  generalize cmpI x.f0 n = r at hc ⊢
  by_cases h1 : x.f0 < n
  · have HR := Aside0.mk (show r = -1 from by rw [hc.out, if_pos h1])
    clear hc
    have d1 : decide (x.f0 < n) = true := decide_eq_true h1
    go_enter Try.func74, Try.ntmps74
    go_wp2
    rw [HR.out]
    go_ret
    exact ⟨rfl, HB.out⟩
  have d1 : decide (x.f0 < n) = false := decide_eq_false h1
  by_cases h2 : n < x.f0
  · have HR := Aside0.mk (show r = 1 from by rw [hc.out, if_neg h1, if_pos h2])
    clear hc
    have d2 : decide (n < x.f0) = true := decide_eq_true h2
    go_enter Try.func74, Try.ntmps74
    go_wp2
    rw [HR.out]
    go_ret
    exact ⟨rfl, HB.out⟩
  have d2 : decide (n < x.f0) = false := decide_eq_false h2
  have HR := Aside0.mk (show r = 0 from by rw [hc.out, if_neg h1, if_neg h2])
  clear hc
  go_enter Try.func74, Try.ntmps74
  go_wp2
  rw [HR.out]
  go_ret
  exact ⟨rfl, HB.out⟩
abbrev zO := z41
/-- What the search found. -/
def BsAt (l : List Ow) (n : Int) (i : Nat) : Prop := i ≤ l.length ∧ (∀ j, j < i → (l.getD j zO).f0 < n) ∧ (∀ j, i ≤ j → j < l.length → n ≤ (l.getD j zO).f0)
def BsIn (l : List Ow) (n : Int) (lo hi : Nat) : Prop := hi ≤ l.length ∧ (∀ j, j < lo → (l.getD j zO).f0 < n) ∧ (∀ j, hi ≤ j → j < l.length → n ≤ (l.getD j zO).f0)
def isAt (l : List Ow) (n : Int) (i : Nat) : Bool := decide (i < l.length) && decide ((l.getD i zO).f0 = n)
set_option maxHeartbeats 8000000 in
set_option maxRecDepth 100000 in
theorem bs_calls (W : World) (A : Option Addr) (c : Nat) (l : List Ow) (n : Int) (hl : l.length ≤ 1000000000) (hC : Kd.C kO W A l.length l) (hr : l.Pairwise fun x y => x.f0 < y.f0) :
    Calls Try.prog 73 #[.slice A l.length c, .int .i64 n, .func (.func 74) #[] #[]] W fun e w' =>
      ∃ i : Nat, e = .returned (.tuple #[.int .i64 i, .bool (isAt l n i)]) ∧ BsAt l n i ∧ Below W.heap.size W w' := by
  have HP := Aside0.mk (fun (x : Ow) (w : World) => set1_calls x n w)
  have HM := Aside0.mk (show ∀ i j, i ≤ j → j < l.length → (l.getD i zO).f0 ≤ (l.getD j zO).f0 from fun i j hij hj => by
    rcases Nat.lt_or_ge i j with h | h
    · have := List.pairwise_iff_getElem.1 hr i j (by omega) hj h
      rw [List.getD_eq_getElem?_getD, List.getD_eq_getElem?_getD, List.getElem?_eq_getElem hj, List.getElem?_eq_getElem (by omega)]
      exact Int.le_of_lt this
    · have : i = j := by omega
      subst this
      exact Int.le_refl _)
  obtain ⟨m, hm⟩ : ∃ m, l.length = m := ⟨_, rfl⟩
  have HN := Aside0.mk hm
  have HC := Aside0.mk (show Kd.C kO W A m l from by rw [← hm]; exact hC)
  rw [hm] at hl ⊢
  clear hr hC hm
  go_enter Try.func73, Try.ntmps73
  go_wp2
  go_loopg [9, 10] m (fun kx s9 s10 wr => ∃ lo hi : Nat, s9 = .int .i64 lo ∧ s10 = .int .i64 hi ∧ lo ≤ hi ∧ hi ≤ m ∧ hi - lo ≤ kx ∧ Aside0 (BsIn l n lo hi) ∧ Aside0 (Below W.heap.size W wr))
  case atStart => exact ⟨0, m, rfl, rfl, Nat.zero_le _, Nat.le_refl _, by omega, ⟨⟨Nat.le_of_eq HN.out.symm, fun j hj => by omega, fun j h1 h2 => by have := HN.out; omega⟩⟩, ⟨Below.refl _ _⟩⟩
  case round =>
    obtain ⟨lo, hi, rfl, rfl, hlh, hin, hg, HI, HB⟩ := hrel
    by_cases hlt : lo < hi
    · go_upto_region 5 with (fail)
      obtain ⟨md, hmd⟩ : ∃ md, (lo + hi) / 2 = md := ⟨_, rfl⟩
      have ia : ((lo : Int) + (hi : Int)) / 2 = (md : Int) := by omega
      rw [ia]
      have i1 : (0 : Int) ≤ (md : Int) := by omega
      have i2 : (md : Int) < (m : Int) := by omega
      have im1 : lo ≤ md := by omega
      have im2 : md < hi := by omega
      clear ia hmd
      obtain ⟨ad, hA, q0, q1, q2⟩ := at_T41 (Kd.C_below HC.out HB.out) (md : Int) i1 i2
      rw [Int.toNat_natCast] at q0 q1 q2
      subst hA
      have hx1 : rd_T41 l (md : Int) = l.getD md zO := rfl
      rw [hx1] at q0 q1 q2
      obtain ⟨x, hx⟩ : ∃ x, l.getD md zO = x := ⟨_, rfl⟩
      have HX := Aside0.mk hx
      rw [hx] at q0 q1 q2
      clear hx hx1
      by_cases hyx : x.f0 < n
      · have HCV := Aside0.mk (show cmpI x.f0 n = -1 from if_pos hyx)
        have HI2 := Aside0.mk (show BsIn l n (md + 1) hi from ⟨HI.out.1, fun j hj => Int.lt_of_le_of_lt (HM.out j md (by omega) (by have := HN.out; omega)) (by rw [HX.out]; exact hyx), HI.out.2.2⟩)
        clear hyx
        go_wp2_with (first | (go_at_call 74; go_loud ((with_reducible refine (HP.out x _).mono ?_); rintro e w2 ⟨rfl, hb2⟩; rw [HCV.out]; have HB2 := Aside0.mk (below_step HB.out hb2); clear hb2)))
        go_roundg (hi - (md + 1))
        case measure => omega
        case rel => exact ⟨md + 1, hi, congrArg (Value.int .i64) (by omega), rfl, by omega, hin, Nat.le_refl _, HI2, HB2⟩
      · have hcv : ¬ cmpI x.f0 n < 0 := by unfold cmpI; rw [if_neg hyx]; split <;> omega
        have HI2 := Aside0.mk (show BsIn l n lo md from ⟨by have := HN.out; omega, HI.out.2.1, fun j h1 h2 => Int.le_trans (by have := HX.out; rw [this] ; omega) (HM.out md j h1 h2)⟩)
        have HP2 := Aside0.mk (fun w => HP.out x w)
        clear hyx
        generalize cmpI x.f0 n = cv at hcv HP2
        go_wp2_with (first | (go_at_call 74; go_loud ((with_reducible refine (HP2.out _).mono ?_); rintro e w2 ⟨rfl, hb2⟩; have HB2 := Aside0.mk (below_step HB.out hb2); clear hb2)))
        go_roundg (md - lo)
        case measure => omega
        case rel => exact ⟨lo, md, rfl, rfl, by omega, by omega, Nat.le_refl _, HI2, HB2⟩
    · have hlo : lo = hi := by omega
      subst hlo
      have HE := Aside0.mk (show BsAt l n lo from ⟨by have := HN.out; omega, HI.out.2.1, HI.out.2.2⟩)
      have HIA := Aside0.mk (show isAt l n lo = (decide (lo < m) && decide ((l.getD lo zO).f0 = n)) from by unfold isAt; rw [HN.out])
      clear HI hg
      by_cases hn : lo < m
      · have i1 : (0 : Int) ≤ (lo : Int) := by omega
        have i2 : (lo : Int) < (m : Int) := by omega
        obtain ⟨ad, hA, q0, q1, q2⟩ := at_T41 (Kd.C_below HC.out HB.out) (lo : Int) i1 i2
        rw [Int.toNat_natCast] at q0 q1 q2
        subst hA
        have hx1 : rd_T41 l (lo : Int) = l.getD lo zO := rfl
        rw [hx1] at q0 q1 q2
        obtain ⟨x, hx⟩ : ∃ x, l.getD lo zO = x := ⟨_, rfl⟩
        rw [hx] at q0 q1 q2 HIA
        clear hx hx1
        have e1 : decide ((lo : Int) < (m : Int)) = true := decide_eq_true i2
        have e2 : decide (lo < m) = true := decide_eq_true hn
        by_cases hyx : x.f0 = n
        · have HCV := Aside0.mk (show cmpI x.f0 n = 0 from by unfold cmpI; rw [if_neg (by omega), if_neg (by omega)])
          have HIB := Aside0.mk (show isAt l n lo = true from by rw [HIA.out, e2, decide_eq_true hyx]; rfl)
          clear hyx HIA
          go_wp2_with (first | (go_at_call 74; go_loud ((with_reducible refine (HP.out x _).mono ?_); rintro e w2 ⟨rfl, hb2⟩; rw [HCV.out]; have HB2 := Aside0.mk (below_step HB.out hb2); clear hb2)))
          go_ret2
          exact ⟨lo, by rw [HIB.out]; rfl, HE.out, HB2.out⟩
        · have hcv : ¬ cmpI x.f0 n = 0 := by unfold cmpI; split <;> (try split) <;> omega
          have HIB := Aside0.mk (show isAt l n lo = false from by rw [HIA.out, e2, decide_eq_false hyx]; rfl)
          have HP2 := Aside0.mk (fun w => HP.out x w)
          clear hyx HIA
          generalize cmpI x.f0 n = cv at hcv HP2
          go_wp2_with (first | (go_at_call 74; go_loud ((with_reducible refine (HP2.out _).mono ?_); rintro e w2 ⟨rfl, hb2⟩; have HB2 := Aside0.mk (below_step HB.out hb2); clear hb2)))
          go_ret2
          exact ⟨lo, by rw [HIB.out, show (cv == 0) = false from beq_false_of_ne hcv]; rfl, HE.out, HB2.out⟩
      · have e1 : decide ((lo : Int) < (m : Int)) = false := decide_eq_false (by omega)
        have e2 : decide (lo < m) = false := decide_eq_false hn
        have HIB := Aside0.mk (show isAt l n lo = false from by rw [HIA.out, e2]; rfl)
        clear HIA
        go_wp2
        go_ret2
        exact ⟨lo, by rw [HIB.out]; rfl, HE.out, HB.out⟩
end Go.Proofs.Ytmdebnfjhnhcjaa.PmB
namespace Go.Proofs.Ytmdebnfjhnhcjaa.PmI
open Go.RowKit Go.Proofs.YtmdebnfjhnhcjaaW.PrintWords Go.Proofs.YtmdebnfjhnhcjaaW.PrintLast Go.Proofs.YtmdebnfjhnhcjaaW.PrintMore Go.Proofs.Ytmdebnfjhnhcjaa.QB Go.Proofs.Ytmdebnfjhnhcjaa.Sl Go.Proofs.Ytmdebnfjhnhcjaa.PlI Go.Proofs.Ytmdebnfjhnhcjaa.PlM
set_option linter.unusedVariables false
set_option linter.unusedSimpArgs false
section
variable {P : Program} {ops : Array Oper} {rest : List Oper} {o : Oper} {a : Act} {Q : Exit → Act → World → Prop} {α : Type}
theorem appendRows (d : Kd α) {w0 W : World} {L : List Asn} (hgd : o.guard = none) (s x : Operand) (t e : TypeId) (z : Value) (bytes : Nat)
    (ho : o.op = .call { callee := .builtin .append, args := #[s, x], argTypes := #[t, t] })
    (ht : P.underlying t = some (.slice e)) (hinfo : (P.info? e).map (fun i => (i.zero, i.size, i.bytes)) = some (some z, d.sz, bytes)) (hz : z.cells.size = d.sz) (hs0 : 0 < d.sz) (hb0 : 0 < bytes)
    (v : Value) (xs ys : List α) (A : Option Addr) (m c : Nat) (hs : a.eval s = v) (hx : a.eval x = .slice A m c)
    (HS : Sat w0 W (Row d e v xs :: L)) (HR : Kd.C d W A m ys) (hKM : ∀ x cs, d.K W x cs → d.M W w0.heap.size (fun _ => False) x cs) (hl : (xs.length + m) * bytes ≤ 140737488355328)
    (h : ∀ v1 w1, Sat w0 w1 (Row d e v1 (xs ++ ys) :: L) → W.heap.size ≤ w1.heap.size → wpList P ops Q rest (a.put o.dst v1) w1) :
    wpList P ops Q (o :: rest) a W := by
  obtain ⟨G, h1, h2, h3⟩ := HS.seps
  refine Kd.R_append_rows d w0.heap.size hgd s x t e z bytes ho ht hinfo hz hs0 hb0 v xs ys A m c (fun k => G k ∨ W.heap.size ≤ k) (fun _ => False) hs hx
    (Kd.R_mono h1 (fun _ hk => .inl hk)) HR hKM (fun _ hk => hk.elim) (fun _ hk => .inr hk) HS.below HS.size hl ?_
  intro v1 w1 hR hB hg _
  exact h v1 w1 (Sat.grew HS.below h2 h3 hR hB hg (fun k hk => h1.1 k hk)) hg.size
theorem wpCopy (w : World) (hgd : o.guard = none) (d s : Operand) (t t' : TypeId)
    (ho : o.op = .call { callee := .builtin .copy, args := #[d, s], argTypes := #[t, t'] }) (v u : Value) (hd : a.eval d = v) (hs : a.eval s = u) {v' : Value} {w' : World}
    (hr : (Builtin.copy_ #[t, t'] o.type #[v, u]).run P w = .ok v' w') (h : wpList P ops Q rest (a.put o.dst v') w') : wpList P ops Q (o :: rest) a w :=
  wpList_plain hgd fun _ hK => by
    unfold Oper.wp execOp
    simp only [ho, resolve, invoke, builtin, Sem.run_bind, Sem.run_pure, Result.andThen_ok, List.map_toArray, List.map_cons, List.map_nil, hd, hs, hr]
    exact hK _ _ h
theorem stepCopy {K : Act → World → Prop} {E : Prop} {w : World}
    (hg : o.guard = none) (d x : Operand) (dT sT : TypeId) (hop : o.op = Op.call { callee := Callee.builtin Builtin.copy, args := #[d, x], argTypes := #[dT, sT] })
    (v u : Value) (hd : a.eval d = v) (hx : a.eval x = u) {v' : Value} {w' : World} (hr : (Builtin.copy_ #[dT, sT] o.type #[v, u]).run P w = .ok v' w') (hK : K (a.put o.dst v') w') :
    if Region.wanted o (yielded ops a.tmps) = true then Oper.wp P o a w K Q else E := by
  have hw : Region.wanted o (yielded ops a.tmps) = true := by simp [Region.wanted, hg]
  rw [if_pos hw]
  unfold Oper.wp
  simp [execOp, hop, resolve, invoke, builtin, hd, hx, hr, Result.andThen]
  exact hK
/-- copy, of elements of more cells than one. -/
theorem run_copyN (w : World) (dT sT ty elem : TypeId) (N : Nat) (g o dLen dCap : Nat) (a : Addr) (sLen sCap : Nat) (cur : Array Value) (t : TypeId) (cs : List Value)
    (hu : P.underlying dT = some (.slice elem)) (hs : (P.info? elem).map (·.size) = some N)
    (hg : w.heap[g]? = some (.cells cur t (0, 0))) (hn : cs.length = Nat.min sLen dLen * N)
    (hsrc : ∀ j v, cs[j]? = some v → w.cell? (a.add j) = some v) (hfit : o + cs.length ≤ cur.size) (h1 : ∀ v ∈ cs, v.oneCell' = true) :
    (Builtin.copy_ #[dT, sT] ty #[.slice (some ⟨g, o, none⟩) dLen dCap, .slice (some a) sLen sCap]).run P w =
      .ok (goInt (Nat.min sLen dLen)) (w.setRow g (cur.toList.take o ++ cs ++ cur.toList.drop (o + cs.length)).toArray) := by
  have hl := run_loadCells_list (P := P) w a cs hsrc
  have hst := run_storeCells_at P g o t cs 0 cur w hg (by simpa using hfit) h1
  cases hq : P.info? elem with
  | none => simp [hq] at hs
  | some i =>
    have hi : i.size = N := by simpa [hq] using hs
    simp [Builtin.copy_, run_underlying hu, Builtin.lenOf, Builtin.firstCells, sizeOf, typeInfo, hq, hi, ← hn, hl, hst]
end
def cellsO (x : Ow) : List Value := [.int .i64 x.f0, .int .i64 x.f1, .int .i64 x.f2]
def flat (l : List Ow) : List Value := l.flatMap cellsO
theorem flat_length : ∀ l : List Ow, (flat l).length = l.length * 3
  | [] => rfl
  | x :: r => by
    show (cellsO x ++ flat r).length = _
    rw [List.length_append, flat_length r, List.length_cons]
    show 3 + _ = _
    omega
theorem flat_cons (x : Ow) (r : List Ow) : flat (x :: r) = cellsO x ++ flat r := rfl
theorem flat_app (l m : List Ow) : flat (l ++ m) = flat l ++ flat m := List.flatMap_append
theorem flat_one (l : List Ow) : ∀ v ∈ flat l, v.oneCell' = true := fun v hv => by
  obtain ⟨x, _, hx⟩ := List.mem_flatMap.1 hv
  unfold cellsO at hx
  simp at hx
  rcases hx with rfl | rfl | rfl <;> rfl
theorem flat_take (l : List Ow) (i : Nat) (hi : i ≤ l.length) : (flat l).take (i * 3) = flat (l.take i) := by
  conv => lhs; rw [← List.take_append_drop i l, flat_app]
  rw [List.take_append_of_le_length (by rw [flat_length, List.length_take]; omega), List.take_of_length_le (by rw [flat_length, List.length_take]; omega)]
theorem flat_drop (l : List Ow) (i : Nat) (hi : i ≤ l.length) : (flat l).drop (i * 3) = flat (l.drop i) := by
  conv => lhs; rw [← List.take_append_drop i l, flat_app]
  rw [List.drop_append_of_le_length (by rw [flat_length, List.length_take]; omega), List.drop_of_length_le (by rw [flat_length, List.length_take]; omega), List.nil_append]
theorem reps_flat {R : Ow → List Value → Prop} (hR : ∀ x cs, R x cs → cs = cellsO x) : ∀ {l : List Ow} {cs : List Value}, Reps R 3 l cs → cs = flat l
  | [], cs, h => by
    have := h.1
    simp at this
    exact this
  | x :: r, cs, h => by
    have h0 := hR _ _ (h.2 0 x rfl)
    rw [Nat.zero_mul, List.drop_zero] at h0
    have h1 := reps_flat hR (l := r) (cs := cs.drop 3) ⟨by rw [List.length_drop, h.1, List.length_cons]; omega, fun j p hp => by
      have := h.2 (j + 1) p (by simpa using hp)
      rw [List.drop_drop]
      have e : 3 + j * 3 = (j + 1) * 3 := by omega
      rw [e]
      exact this⟩
    rw [flat_cons, ← h0, ← h1, List.take_append_drop]
theorem flat_reps {R : Ow → List Value → Prop} (hR : ∀ x, R x (cellsO x)) (l : List Ow) : Reps R 3 l (flat l) := ⟨flat_length l, fun j p hp => by
  have hj := (List.getElem?_eq_some_iff.1 hp).1
  have hpj : l[j] = p := (List.getElem?_eq_some_iff.1 hp).2
  rw [flat_drop l j (by omega), List.drop_eq_getElem_cons hj, flat_cons, hpj, List.take_append_of_le_length (Nat.le_refl 3)]
  exact hR p⟩
section
variable {w0 w : World} {L : List Asn} {v : Value} {l : List Ow} {g c : Nat} {cur : Array Value}
theorem row_blk (h : Sat w0 w (Row kO tO v l :: L)) (hn : 0 < l.length) : ∃ g c cur, v = .slice (some ⟨g, 0, none⟩) l.length c ∧ l.length ≤ c ∧ c ≤ maxLen ∧ cur.size = c * 3 ∧ cur.toList.take (l.length * 3) = flat l ∧ Sat w0 w (Blk g cur tO :: L) := by
  obtain ⟨G, ⟨hok, inner, ⟨hlen, hcase⟩, hr⟩, hGB⟩ := h.get
  rcases hcase with ⟨rfl, h0⟩ | ⟨g, c, cur, rfl, hbase, hg, hnc, hcm, hsz, htk⟩
  · omega
  have hf := reps_flat (fun x cs hx => k41_openM hx) hr
  refine ⟨g, c, cur, rfl, hnc, hcm, hsz, by rw [← hf]; exact htk, ?_⟩
  exact h.imp fun G' hG' => ⟨hG'.1 g rfl, hg⟩
theorem blk_row (h : Sat w0 w (Blk g cur tO :: L)) (hn : l.length ≤ c) (hc : c ≤ maxLen) (hsz : cur.size = c * 3) (htk : cur.toList.take (l.length * 3) = flat l) : Sat w0 w (Row kO tO (.slice (some ⟨g, 0, none⟩) l.length c) l :: L) := by
  have hge := h.ge
  refine h.imp fun G hG => ⟨fun k hk => ?_, flat l, ⟨flat_length l, .inr ⟨g, c, cur, rfl, hge, hG.2, hn, hc, hsz, htk⟩⟩, flat_reps (fun x => k41_mkM _ _ _ x) l⟩
  have : g = k := by simpa [Value.ownBlock] using hk
  subst this
  exact hG.1
end
theorem infoO : (Try.prog.info? tO).map (fun i => (i.zero, i.size, i.bytes)) = some (some (.agg #[.int .i64 0, .int .i64 0, .int .i64 0]), 3, 24) := by kernel_rfl
theorem sizeO : (Try.prog.info? tO).map (·.size) = some 3 := by kernel_rfl
/-- The cells of a row whose first ones are known. -/
theorem cells_at {w : World} {g : Nat} {cur : Array Value} {t : TypeId} (hg : w.heap[g]? = some (.cells cur t (0, 0))) {l : List Value} {n : Nat} (hl : cur.toList.take n = l) (j : Nat) (v : Value) (h : l[j]? = some v) : w.cell? ⟨g, j, none⟩ = some v := by
  subst hl
  rw [List.getElem?_take] at h
  split at h
  · simp only [World.cell?, hg]
    simpa using h
  · cases h
set_option maxHeartbeats 8000000 in
set_option maxRecDepth 100000 in
theorem insert_end (w0 w : World) (L : List Asn) (v : Value) (l : List Ow) (o : Ow) (gv : Nat) (hl : l.length ≤ 1000000) (h : Sat w0 w (Row kO tO v l :: Row kO tO (.slice (some ⟨gv, 0, none⟩) 1 1) [o] :: L)) :
    Calls Try.prog 76 #[v, .int .i64 l.length, .slice (some ⟨gv, 0, none⟩) 1 1] w fun e w' => ∃ v', e = .returned v' ∧ Sat w0 w' (Row kO tO v' (l ++ [o]) :: L) := by
  obtain ⟨A, c, rfl, hc, hC⟩ := h.rowSlice
  have H := Aside0.mk h
  have HV := Aside0.mk ((h.nth 1 rfl).rowC)
  obtain ⟨n, hn⟩ : ∃ n, l.length = n := ⟨_, rfl⟩
  have HN := Aside0.mk hn
  rw [hn] at H hl hc ⊢
  clear h hn hC
  go_enter Try.func76, Try.ntmps76
  go_wp2_with (first | (at_builtin; go_loud (refine appendRows kO rfl (.tmp 23) (.tmp 24) 39 tO (.agg #[.int .i64 0, .int .i64 0, .int .i64 0]) 24 rfl Try.underlying39 infoO rfl (by decide) (by decide) _ l [o] (some ⟨gv, 0, none⟩) 1 1 rfl rfl H.out HV.out (fun _ _ h => h) (by have := HN.out; omega) ?_; intro v4 w4 hs4 _; have H4 := Aside0.mk (hs4.nth 1 rfl).tail; clear hs4)))
  all_goals (go_ret; exact ⟨_, rfl, H4.out⟩)
theorem flat_ins (l : List Ow) (o : Ow) (i : Nat) : flat (l.take i ++ o :: l.drop i) = flat (l.take i) ++ cellsO o ++ flat (l.drop i) := by
  rw [flat_app, flat_cons, List.append_assoc]
set_option maxHeartbeats 8000000 in
set_option maxRecDepth 100000 in
theorem insert_room (w0 w : World) (L : List Asn) (g n c : Nat) (l : List Ow) (o : Ow) (gv i : Nat) (hln : l.length = n) (hi : i < n) (hl : n ≤ 1000000) (hroom : n + 1 ≤ c) (h : Sat w0 w (Row kO tO (.slice (some ⟨g, 0, none⟩) n c) l :: Row kO tO (.slice (some ⟨gv, 0, none⟩) 1 1) [o] :: L)) :
    Calls Try.prog 76 #[.slice (some ⟨g, 0, none⟩) n c, .int .i64 i, .slice (some ⟨gv, 0, none⟩) 1 1] w fun e w' => ∃ v', e = .returned v' ∧ Sat w0 w' (Row kO tO v' (l.take i ++ o :: l.drop i) :: L) := by
  obtain ⟨g', c', cur, e, _, hcm, hsz, htk, h1⟩ := row_blk h (by omega)
  injection e with e1 e2 e3
  injection e1 with e1
  injection e1 with e1
  subst e1 e3
  obtain ⟨gv', cv', curv, e, _, _, hszv, htkv, h2⟩ := row_blk (h1.nth 1 rfl) (Nat.lt_of_lt_of_le Nat.zero_lt_one (Nat.le_refl 1))
  injection e with e1 e2 e3
  injection e1 with e1
  injection e1 with e1
  subst e1 e3
  clear h h1 e2
  have h3 : Sat w0 w (Blk g cur tO :: Blk gv curv tO :: L) := h2.nth 1 rfl
  have hgb := h3.blk
  have hvb := h2.blk
  have hne : gv ≠ g := fun e => by
    subst e
    obtain ⟨G, hG, _, hs⟩ := h3.seps
    obtain ⟨G', hG', hsub, _⟩ := hs
    exact (hsub _ hG'.1).2 hG.1
  have hfl : (flat l).length = n * 3 := by rw [flat_length, hln]
  have hov : ∀ lb cb, (callFunc 90 #[.slice (some ⟨gv, 0, none⟩) 1 1, .slice (some ⟨g, (i + 1) * 3, none⟩) lb cb]).run Try.prog w = .ok (.value (.bool false)) w := fun lb cb => by
    rw [run_callFunc_extern Try.func90 (by kernel_rfl) (by kernel_rfl) (by kernel_rfl) (e := Extern.SlicesOverlaps.overlaps #[39, 39] #[4]) (by kernel_rfl),
      Lib.run_overlaps_apart w 39 4 tO Try.underlying39 3 Try.sizeOf41 ⟨gv, 0, none⟩ ⟨g, (i + 1) * 3, none⟩ 1 1 lb cb hne tO tO curv.size cur.size (by simp [World.shape?, hvb]) (by simp [World.shape?, hgb]) (by omega) (by simp [World.frozen?, hvb]) (by simp [World.frozen?, hvb])]
    rfl
  have hcs : (flat (l.drop i)).length = (n - i) * 3 := by rw [flat_length, List.length_drop, hln]
  have hsrc : ∀ j v, (flat (l.drop i))[j]? = some v → w.cell? (Addr.add ⟨g, i * 3, none⟩ j) = some v := fun j v hj => by
    have : (Addr.add ⟨g, i * 3, none⟩ j) = ⟨g, i * 3 + j, none⟩ := by unfold Addr.add; split <;> simp_all
    rw [this]
    rw [← flat_drop l i (by omega), List.getElem?_drop] at hj
    exact cells_at hgb htk _ v hj
  have hsrcv : ∀ j v, (cellsO o)[j]? = some v → w.cell? (Addr.add ⟨gv, 0, none⟩ j) = some v := fun j v hj => by
    have : (Addr.add ⟨gv, 0, none⟩ j) = ⟨gv, j, none⟩ := by unfold Addr.add; split <;> simp_all
    rw [this]
    exact cells_at hvb htkv _ v hj
  obtain ⟨cur1, hcur1⟩ : ∃ cur1 : Array Value, cur1 = (cur.toList.take ((i + 1) * 3) ++ flat (l.drop i) ++ cur.toList.drop ((i + 1) * 3 + (flat (l.drop i)).length)).toArray := ⟨_, rfl⟩
  have hcp1 : ∀ (W : World) ty dc sc, W.heap = w.heap → (Builtin.copy_ #[39, 39] ty #[.slice (some ⟨g, (i + 1) * 3, none⟩) (n - i) dc, .slice (some ⟨g, i * 3, none⟩) (n + 1 - i) sc]).run Try.prog W = .ok (goInt (n - i : Nat)) (W.setRow g cur1) := fun W ty dc sc hW => by
    have := run_copyN (P := Try.prog) W 39 39 ty tO 3 g ((i + 1) * 3) (n - i) dc ⟨g, i * 3, none⟩ (n + 1 - i) sc cur tO (flat (l.drop i)) Try.underlying39 sizeO (by rw [hW]; exact hgb) (by rw [hcs, show Nat.min (n + 1 - i) (n - i) = n - i from Nat.min_eq_right (by omega)]) (fun j v hj => by
      have := hsrc j v hj
      unfold World.cell? at this ⊢
      rw [hW]
      exact this) (by rw [hcs, hsz]; omega) (flat_one _)
    rw [show Nat.min (n + 1 - i) (n - i) = n - i from Nat.min_eq_right (by omega), ← hcur1] at this
    exact this
  have Z1 := Aside0.mk hcp1
  have Z3 := Aside0.mk hsrcv
  have HC1 := Aside0.mk hcur1
  have HSZ := Aside0.mk (show cur1.size = c * 3 from by
    rw [hcur1]
    simp only [List.size_toArray, List.length_append, List.length_take, List.length_drop, Array.length_toList, hcs, hsz]
    omega)
  have HFI := Aside0.mk (show ((cur1.toList.take (i * 3) ++ cellsO o ++ cur1.toList.drop (i * 3 + 3)).toArray).toList.take ((n + 1) * 3) = flat (l.take i ++ o :: l.drop i) from by
    have ht : cur.toList.take (i * 3) = flat (l.take i) := by
      rw [← flat_take l i (by omega), ← htk, List.take_take, Nat.min_eq_left (by omega)]
    rw [hcur1, flat_ins]
    simp only [List.toList_toArray]
    have hA : (List.take ((i + 1) * 3) cur.toList ++ flat (List.drop i l) ++ List.drop ((i + 1) * 3 + (flat (List.drop i l)).length) cur.toList).take (i * 3) = flat (l.take i) := by
      rw [List.append_assoc, List.take_append_of_le_length (by rw [List.length_take, Array.length_toList]; omega), List.take_take, Nat.min_eq_left (by omega), ht]
    have hB : (List.take ((i + 1) * 3) cur.toList ++ flat (List.drop i l) ++ List.drop ((i + 1) * 3 + (flat (List.drop i l)).length) cur.toList).drop (i * 3 + 3) = flat (List.drop i l) ++ List.drop ((i + 1) * 3 + (flat (List.drop i l)).length) cur.toList := by
      have hlt : (List.take ((i + 1) * 3) cur.toList).length = i * 3 + 3 := by rw [List.length_take, Array.length_toList]; omega
      rw [List.append_assoc, ← hlt, List.drop_left]
    rw [hA, hB, ← List.append_assoc]
    refine List.take_append_of_le_length ?_ |>.trans (List.take_of_length_le ?_)
    · simp only [List.length_append, flat_length, List.length_take, List.length_drop]
      show _ ≤ _ + 3 + _
      omega
    · simp only [List.length_append, flat_length, List.length_take, List.length_drop]
      show _ + 3 + _ ≤ _
      omega)
  have HLN := Aside0.mk hln
  have HCM := Aside0.mk hcm
  clear hcp1 hsrc hfl hsrcv hcur1 hcs
  have e1 : ((i : Int) = (n : Int)) = False := by simp; omega
  have e2' : i ≤ n := by omega
  have hnc : n ≤ c := by omega
  have hc63 : c ≤ 9223372036854775807 := by unfold maxLen at hcm; omega
  have hw1 : IntKind.i64.wrap ((i : Int) + 1) = (i : Int) + 1 := by rw [IntKind.wrap_i64]; omega
  have hb1 : (0 : Int) ≤ (i : Int) + 1 := by omega
  have hb3 : (i : Int) ≤ (n : Int) + 1 := by omega
  have htn : ((i : Int) + 1).toNat = i + 1 := by omega
  clear hln htk htkv hcm hsz hszv e2
  have e3 : ¬ (c = i) := by omega
  have e4 : ¬ (c = i + 1) := by omega
  go_enter Try.func76, Try.ntmps76
  go_wp2_with (simp only [hov])
  have q1 := Z1.out w.drew 3 (c - (i + 1)) (c - i) rfl
  go_region
  have HS1 := Aside0.mk ((h3.drew).setRow cur1)
  have Z4 := Aside0.mk (show ∀ j v, (cellsO o)[j]? = some v → (w.drew.setRow g cur1).cell? (Addr.add ⟨gv, 0, none⟩ j) = some v from fun j v hj => by
    rw [cell_setRow_other _ _ _ _ (by unfold Addr.add; split <;> exact hne)]
    exact Z3.out j v hj)
  generalize w.drew.setRow g cur1 = w1 at HS1 Z4 ⊢
  have Z5 := Aside0.mk (fun ty dc => show (Builtin.copy_ #[39, 39] ty #[.slice (some ⟨g, i * 3, none⟩) (n + 1 - i) dc, .slice (some ⟨gv, 0, none⟩) 1 1]).run Try.prog w1 = .ok (goInt (1 : Nat)) (w1.setRow g (cur1.toList.take (i * 3) ++ cellsO o ++ cur1.toList.drop (i * 3 + 3)).toArray) from by
    have := run_copyN (P := Try.prog) w1 39 39 ty tO 3 g (i * 3) (n + 1 - i) dc ⟨gv, 0, none⟩ 1 1 cur1 tO (cellsO o) Try.underlying39 sizeO HS1.out.blk (by rw [show Nat.min 1 (n + 1 - i) = 1 from Nat.min_eq_left (by omega)]; rfl) Z4.out (by have := HSZ.out; show i * 3 + 3 ≤ _; omega) (fun v hv => flat_one [o] v hv)
    rw [show Nat.min 1 (n + 1 - i) = 1 from Nat.min_eq_left (by omega)] at this
    exact this)
  have HS2 := Aside0.mk (HS1.out.setRow (cur1.toList.take (i * 3) ++ cellsO o ++ cur1.toList.drop (i * 3 + 3)).toArray)
  have HS3 := Aside0.mk (show ((cur1.toList.take (i * 3) ++ cellsO o ++ cur1.toList.drop (i * 3 + 3)).toArray).size = c * 3 from by
    have h1 := HSZ.out
    have h2 : (cellsO o).length = 3 := rfl
    simp only [List.size_toArray, List.length_append, List.length_take, List.length_drop, Array.length_toList, h2]
    omega)
  have HFJ := Aside0.mk (show ((cur1.toList.take (i * 3) ++ cellsO o ++ cur1.toList.drop (i * 3 + 3)).toArray).toList.take ((n + 1) * 3) = flat (l.take i ++ o :: l.drop i) from HFI.out)
  generalize (cur1.toList.take (i * 3) ++ cellsO o ++ cur1.toList.drop (i * 3 + 3)).toArray = cur2 at Z5 HS2 HS3 HFJ
  clear q1 Z1 HS1 hov
  have q2 := Z5.out 3 (c - i)
  go_wp2
  go_ret
  refine ⟨_, rfl, ?_⟩
  have hll : (l.take i ++ o :: l.drop i).length = n + 1 := by
    have := HLN.out
    rw [List.length_append, List.length_take, List.length_cons, List.length_drop]
    omega
  have hfin := blk_row (c := c) (l := l.take i ++ o :: l.drop i) HS2.out (by omega) HCM.out HS3.out (by rw [hll]; exact HFJ.out)
  rw [hll] at hfin
  exact (hfin.nth 1 rfl).tail
theorem drop_zeros {α : Type} {A B C : List α} {n : Nat} (hA : A.length = n) : (A ++ B ++ C).take n = A := by
  rw [List.append_assoc, List.take_append_of_le_length (by omega), List.take_of_length_le (by omega)]
set_option maxHeartbeats 8000000 in
set_option maxRecDepth 100000 in
theorem insert_grow (w0 w : World) (L : List Asn) (g n c : Nat) (l : List Ow) (o : Ow) (gv i : Nat) (hln : l.length = n) (hi : i < n) (hl : n ≤ 1000000) (hnc : n ≤ c) (hroom : c < n + 1) (h : Sat w0 w (Row kO tO (.slice (some ⟨g, 0, none⟩) n c) l :: Row kO tO (.slice (some ⟨gv, 0, none⟩) 1 1) [o] :: L)) :
    Calls Try.prog 76 #[.slice (some ⟨g, 0, none⟩) n c, .int .i64 i, .slice (some ⟨gv, 0, none⟩) 1 1] w fun e w' => ∃ v', e = .returned v' ∧ Sat w0 w' (Row kO tO v' (l.take i ++ o :: l.drop i) :: L) := by
  obtain ⟨g', c', cur, e, _, hcm, hsz, htk, h1⟩ := row_blk h (by omega)
  injection e with e1 e2 e3
  injection e1 with e1
  injection e1 with e1
  subst e1 e3
  clear e2
  obtain ⟨gv', cv', curv, e, _, _, hszv, htkv, h2⟩ := row_blk (h1.nth 1 rfl) (Nat.lt_of_lt_of_le Nat.zero_lt_one (Nat.le_refl 1))
  injection e with e1 e2 e3
  injection e1 with e1
  injection e1 with e1
  subst e1 e3
  clear h h1 e2
  have h3 : Sat w0 w (Blk g cur tO :: Blk gv curv tO :: L) := h2.nth 1 rfl
  have hgb := h3.blk
  have hvb := h2.blk
  have hcs : (flat (l.drop i)).length = (n - i) * 3 := by rw [flat_length, List.length_drop, hln]
  have hsrc : ∀ j v, (flat (l.drop i))[j]? = some v → w.cell? (Addr.add ⟨g, i * 3, none⟩ j) = some v := fun j v hj => by
    have : (Addr.add ⟨g, i * 3, none⟩ j) = ⟨g, i * 3 + j, none⟩ := by unfold Addr.add; split <;> simp_all
    rw [this]
    rw [← flat_drop l i (by omega), List.getElem?_drop] at hj
    exact cells_at hgb htk _ v hj
  have hsrcv : ∀ j v, (cellsO o)[j]? = some v → w.cell? (Addr.add ⟨gv, 0, none⟩ j) = some v := fun j v hj => by
    have : (Addr.add ⟨gv, 0, none⟩ j) = ⟨gv, j, none⟩ := by unfold Addr.add; split <;> simp_all
    rw [this]
    exact cells_at hvb htkv _ v hj
  have htl : (flat (l.take i)).length = i * 3 := by rw [flat_length, List.length_take, hln, Nat.min_eq_left (by omega)]
  have hold : (Builtin.firstCells 3 i (.slice (some ⟨g, 0, none⟩) i c)).run Try.prog w.drew = .ok (flat (l.take i)).toArray w.drew := run_firstCells_some w.drew 3 i ⟨g, 0, none⟩ i c (flat (l.take i)) htl (fun j v hj => by
    have : (Addr.add ⟨g, 0, none⟩ j) = ⟨g, j, none⟩ := by unfold Addr.add; split <;> simp_all
    rw [this]
    have hj2 : (flat l)[j]? = some v := by
      rw [← flat_take l i (by omega), List.getElem?_take] at hj
      split at hj
      · exact hj
      · cases hj
    exact cells_at hgb htk _ v hj2)
  obtain ⟨i0, hi0, hz0, hzs, hzb⟩ := info_parts infoO
  obtain ⟨G, hG⟩ : ∃ G, G = grownCap w (n + 1) c tO := ⟨_, rfl⟩
  obtain ⟨ROW, hROW⟩ : ∃ ROW : Array Value, ROW = (flat (l.take i)).toArray ++ Builtin.zeroCells (Value.agg #[.int .i64 0, .int .i64 0, .int .i64 0]).cells (n + 1 - i) ++ Builtin.zeroCells (Value.agg #[.int .i64 0, .int .i64 0, .int .i64 0]).cells (G - (n + 1)) := ⟨_, rfl⟩
  have hrz : ∀ ty, (Builtin.append_ #[39, 3] ty #[.slice (some ⟨g, 0, none⟩) i c, .int .i64 ((n : Int) + 1 - (i : Int))]).run Try.prog w = .ok (.slice (some ⟨w.heap.size, 0, none⟩) (n + 1) G) (w.drew.alloc (.cells ROW tO)) := fun ty => by
    have h := Lib.run_append_grow_zeros (P := Try.prog) w 39 3 ty tO i0 _ .i64 .i64 Try.underlying39 Try.underlying3 hi0 hz0 (some ⟨g, 0, none⟩) i c (flat (l.take i)) (by rw [hzs]; exact hold) (n + 1 - i) (by omega) (by omega) (by omega) (by omega) (by rw [hzb]; omega) (by rw [hzb, show i + (n + 1 - i) = n + 1 from by omega]; exact growslice_fits hroom (by omega))
    rw [show i + (n + 1 - i) = n + 1 from by omega, ← hG, ← hROW] at h
    rw [show (n : Int) + 1 - (i : Int) = ((n + 1 - i : Nat) : Int) from by omega]
    exact h
  have hGn : n + 1 ≤ G := by rw [hG]; exact grownCap_ge w _ _ _
  have hGm : G ≤ maxLen := by rw [hG]; exact grownCap_le_maxLen w (n + 1) c tO (by unfold maxLen; omega)
  have hzc : ∀ k, (Builtin.zeroCells (Value.agg #[.int .i64 0, .int .i64 0, .int .i64 0]).cells k).size = k * 3 := fun k => by simp [Builtin.zeroCells, Value.cells]
  have hRs : ROW.size = G * 3 := by
    rw [hROW]
    simp only [Array.size_append, List.size_toArray, hzc, htl]
    omega
  have hRt : ROW.toList.take (i * 3) = flat (l.take i) := by
    rw [hROW]
    simp only [Array.toList_append, List.toList_toArray]
    exact drop_zeros htl
  have h4 : Sat w0 (w.drew.alloc (.cells ROW tO)) (Blk w.heap.size ROW tO :: Blk g cur tO :: Blk gv curv tO :: L) := (h3.drew).newBlk ROW tO
  have hsrc1 : ∀ j v, (cellsO o)[j]? = some v → (w.drew.alloc (.cells ROW tO)).cell? (Addr.add ⟨gv, 0, none⟩ j) = some v := fun j v hj => by
    have := hsrcv j v hj
    rw [(below_alloc (Below.refl w.drew.heap.size w.drew) (.cells ROW tO)).cell (by unfold Addr.add; split <;> exact h2.lt)]
    exact this
  have hsrc2 : ∀ j v, (flat (l.drop i))[j]? = some v → (w.drew.alloc (.cells ROW tO)).cell? (Addr.add ⟨g, i * 3, none⟩ j) = some v := fun j v hj => by
    have := hsrc j v hj
    rw [(below_alloc (Below.refl w.drew.heap.size w.drew) (.cells ROW tO)).cell (by unfold Addr.add; split <;> exact h3.lt)]
    exact this
  have hgN : g < w.heap.size := h3.lt
  have hvN : gv < w.heap.size := h2.lt
  clear hold hsrc hsrcv hROW hG hzc hi0 hz0 hzs hzb htk htkv hsz hszv h3 h2 hgb hvb hcm
  generalize w.heap.size = N at hrz h4 hgN hvN
  have HRZ := Aside0.mk hrz
  have h4b := h4.blk
  generalize w.drew.alloc (.cells ROW tO) = w1 at hrz HRZ h4 hsrc1 hsrc2 h4b
  obtain ⟨R1, hR1⟩ : ∃ R1 : Array Value, R1 = (ROW.toList.take (i * 3) ++ cellsO o ++ ROW.toList.drop (i * 3 + 3)).toArray := ⟨_, rfl⟩
  have h3c : (cellsO o).length = 3 := rfl
  have hR1s : R1.size = G * 3 := by
    rw [hR1]
    simp only [List.size_toArray, List.length_append, List.length_take, List.length_drop, Array.length_toList, h3c, hRs]
    omega
  have hR1t : R1.toList.take ((i + 1) * 3) = flat (l.take i) ++ cellsO o := by
    rw [hR1]
    simp only [List.toList_toArray]
    rw [hRt]
    refine List.take_append_of_le_length ?_ |>.trans (List.take_of_length_le ?_)
    · rw [List.length_append, htl, h3c]; omega
    · rw [List.length_append, htl, h3c]; omega
  have Z1 := Aside0.mk (fun (ty : TypeId) (dc : Nat) => show (Builtin.copy_ #[39, 39] ty #[.slice (some ⟨N, i * 3, none⟩) (n + 1 - i) dc, .slice (some ⟨gv, 0, none⟩) 1 1]).run Try.prog w1 = .ok (goInt (1 : Nat)) (w1.setRow N R1) from by
    have := run_copyN (P := Try.prog) w1 39 39 ty tO 3 N (i * 3) (n + 1 - i) dc ⟨gv, 0, none⟩ 1 1 ROW tO (cellsO o) Try.underlying39 sizeO h4b (by rw [show Nat.min 1 (n + 1 - i) = 1 from Nat.min_eq_left (by omega)]; rfl) hsrc1 (by show i * 3 + 3 ≤ _; omega) (fun v hv => flat_one [o] v hv)
    rw [show Nat.min 1 (n + 1 - i) = 1 from Nat.min_eq_left (by omega), h3c, ← hR1] at this
    exact this)
  have H5 := Aside0.mk (h4.setRow R1)
  obtain ⟨R2, hR2⟩ : ∃ R2 : Array Value, R2 = (R1.toList.take ((i + 1) * 3) ++ flat (l.drop i) ++ R1.toList.drop ((i + 1) * 3 + (flat (l.drop i)).length)).toArray := ⟨_, rfl⟩
  have Z2 := Aside0.mk (fun (W : World) (ty : TypeId) (dc sc : Nat) (hW : W.heap = (w1.setRow N R1).heap) => show (Builtin.copy_ #[39, 39] ty #[.slice (some ⟨N, (i + 1) * 3, none⟩) (n - i) dc, .slice (some ⟨g, i * 3, none⟩) (n - i) sc]).run Try.prog W = .ok (goInt (n - i : Nat)) (W.setRow N R2) from by
    have hcW : ∀ a, W.cell? a = (w1.setRow N R1).cell? a := fun a => by unfold World.cell?; rw [hW]
    have := run_copyN (P := Try.prog) W 39 39 ty tO 3 N ((i + 1) * 3) (n - i) dc ⟨g, i * 3, none⟩ (n - i) sc R1 tO (flat (l.drop i)) Try.underlying39 sizeO (by rw [hW]; exact H5.out.blk) (by rw [show Nat.min (n - i) (n - i) = n - i from Nat.min_self _, hcs]) (fun j v hj => by
      rw [hcW, cell_setRow_other _ _ _ _ (by unfold Addr.add; split <;> exact Nat.ne_of_lt hgN)]
      exact hsrc2 j v hj) (by rw [hcs]; omega) (flat_one _)
    rw [show Nat.min (n - i) (n - i) = n - i from Nat.min_self _, ← hR2] at this
    exact this)
  have HFI := Aside0.mk (show R2.toList.take ((n + 1) * 3) = flat (l.take i ++ o :: l.drop i) from by
    rw [hR2, flat_ins]
    simp only [List.toList_toArray]
    rw [hR1t]
    refine List.take_append_of_le_length ?_ |>.trans (List.take_of_length_le ?_)
    · simp only [List.length_append, htl, h3c, hcs]; omega
    · simp only [List.length_append, htl, h3c, hcs]; omega)
  have HR2s := Aside0.mk (show R2.size = G * 3 from by
    rw [hR2]
    simp only [List.size_toArray, List.length_append, List.length_take, List.length_drop, Array.length_toList, hcs, hR1s]
    omega)
  have HGM := Aside0.mk hGm
  have HLN := Aside0.mk hln
  clear hrz hRs hRt hR1 hR1s hR1t hR2 htl hcs h3c hsrc1 hsrc2 h4b h4 hln
  have e1 : ((i : Int) = (n : Int)) = False := by simp; omega
  have e2' : i ≤ n := by omega
  have hnG : n ≤ G := by omega
  have hiG : i ≤ G := by omega
  have hG63 : G ≤ 9223372036854775807 := by unfold maxLen at hGm; omega
  have hc63 : c ≤ 9223372036854775807 := by omega
  have hw1 : IntKind.i64.wrap ((i : Int) + 1) = (i : Int) + 1 := by rw [IntKind.wrap_i64]; omega
  have hb1 : (0 : Int) ≤ (i : Int) + 1 := by omega
  have hb3 : (i : Int) ≤ (n : Int) := by omega
  have htn : ((i : Int) + 1).toNat = i + 1 := by omega
  have hz3 : (c : Int) < (n : Int) + 1 := by omega
  have e3 : ¬ (G = i) := by omega
  have e4 : ¬ (G = i + 1) := by omega
  have e5 : ¬ (c = i) := by omega
  clear hGm
  go_enter Try.func76, Try.ntmps76
  have q1 := Z1.out 3 (G - i)
  go_wp2_with (first | (at_builtin; refine Lib.wpList_append_run _ rfl _ _ _ _ rfl _ _ rfl rfl _ _ (HRZ.out _) ?_))
  have H6 := Aside0.mk (H5.out.drew.setRow R2)
  have q2 := Z2.out (w1.setRow N R1).drew 3 (G - (i + 1)) (c - i) rfl
  clear q1 Z1 HRZ
  generalize w1.setRow N R1 = w2 at q2 H6 ⊢
  go_region
  generalize w2.drew.setRow N R2 = w3 at H6 ⊢
  go_wp2
  go_ret
  refine ⟨_, rfl, ?_⟩
  have hll : (l.take i ++ o :: l.drop i).length = n + 1 := by
    have := HLN.out
    rw [List.length_append, List.length_take, List.length_cons, List.length_drop]
    omega
  have hfin := blk_row (c := G) (l := l.take i ++ o :: l.drop i) H6.out (by omega) HGM.out HR2s.out (by rw [hll]; exact HFI.out)
  rw [hll] at hfin
  exact ((hfin.nth 1 rfl).tail.nth 1 rfl).tail
theorem insert_calls (w0 w : World) (L : List Asn) (v : Value) (l : List Ow) (o : Ow) (gv i : Nat) (hi : i ≤ l.length) (hl : l.length ≤ 1000000) (h : Sat w0 w (Row kO tO v l :: Row kO tO (.slice (some ⟨gv, 0, none⟩) 1 1) [o] :: L)) :
    Calls Try.prog 76 #[v, .int .i64 i, .slice (some ⟨gv, 0, none⟩) 1 1] w fun e w' => ∃ v', e = .returned v' ∧ Sat w0 w' (Row kO tO v' (l.take i ++ o :: l.drop i) :: L) := by
  by_cases hin : i = l.length
  · subst hin
    have := insert_end w0 w L v l o gv hl h
    rw [List.take_length, List.drop_length]
    exact this
  · obtain ⟨g, c, rfl, _, _⟩ := h.rowBlock (by omega)
    have hc := h.rowLen.2
    by_cases hr : l.length + 1 ≤ c
    · exact insert_room w0 w L g l.length c l o gv i rfl (by omega) hl hr h
    · exact insert_grow w0 w L g l.length c l o gv i rfl (by omega) hl hc (by omega) h
end Go.Proofs.Ytmdebnfjhnhcjaa.PmI
