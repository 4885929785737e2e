/- More words for a walk's memory (see Sl): rows with room, appends in a region that draws, a call that panics in one.
   Plain words for a walk's memory: a row of rows of owners (a placement's shards), each of blocks of its own. -/
import Derived.Test.YtmdebnfjhnhcjaaZPlacementEven6
import Derived.Test.YtmdebnfjhnhcjaaZPlacementEven1
namespace Go.Proofs.Ytmdebnfjhnhcjaa.Sl
open Go.RowKit Go.Proofs.YtmdebnfjhnhcjaaW.PrintWords Go.Proofs.YtmdebnfjhnhcjaaW.PrintLast Go.Proofs.YtmdebnfjhnhcjaaW.PrintMore
set_option linter.unusedVariables false
set_option linter.unusedSimpArgs false
theorem Sat.madeRow {α : Type} {w0 w : World} {L : List Asn} (d : Kd α) (e : Nat) (c : Nat) (cells : Array Value) (hc : c ≤ maxLen) (hsz : cells.size = c * d.sz) (h : Sat w0 w L) : Sat w0 (w.alloc (.cells cells e)) (Row d e (.slice (some ⟨w.heap.size, 0, none⟩) 0 c) ([] : List α) :: L) := by
  refine h.push (below_alloc (Below.refl _ _) _) (G' := fun k => k = w.heap.size) ⟨fun k hk => ?_, [], ?_, Reps.none _ _⟩ (fun k hk => by subst hk; simp)
  · have : w.heap.size = k := by simpa [Value.ownBlock] using hk
    exact this.symm
  · exact World.ownsRow_made w cells c h.size hc hsz
section
variable {P : Program} {ops : Array Oper} {o : Oper} {a : Act} {Q : Exit → Act → World → Prop} {Kc : Act → World → Prop} {α : Type}
/-- append(v, p) in a region that draws its order; p's cells need no other block. -/
theorem Sat.appendStep (d : Kd α) {w0 W : World} {L : List Asn} (hw : Region.wanted o (yielded ops a.tmps) = true) (s x : Operand) (t e : TypeId) (z : Value) (bytes : Nat)
    (ho : o.op = .call { callee := .builtin .append, args := #[s, x], argTypes := #[t, t] })
    (ht : P.underlying t = some (.slice e)) (hinfo : (P.info? e).map (fun i => (i.zero, i.size, i.bytes)) = some (some z, d.sz, bytes)) (hz : z.cells.size = d.sz) (hs0 : 0 < d.sz) (hb0 : 0 < bytes)
    (v : Value) (xs : List α) (p : α) (cs : List Value) (hs : a.eval s = v) (hx : a.eval x = .slice (some ⟨W.heap.size, 0, none⟩) 1 1) (hp : d.M W w0.heap.size (fun _ => False) p cs)
    (HS : Sat w0 W (Row d e v xs :: L)) (hl : (xs.length + 1) * bytes ≤ 140737488355328)
    (h : ∀ v1 w1, Sat w0 w1 (Row d e v1 (xs ++ [p]) :: L) → W.heap.size ≤ w1.heap.size → Kc (a.put o.dst v1) w1) :
    if Region.wanted o (yielded ops a.tmps) = true then Oper.wp P o a (W.alloc (.cells cs.toArray e)) Kc Q else Kc (a.put o.dst undef) (W.alloc (.cells cs.toArray e)) := by
  obtain ⟨G, h1, h2, h3⟩ := HS.seps
  refine Kd.R_append_step d w0.heap.size hw s x t e z bytes ho ht hinfo hz hs0 hb0 v xs p cs (fun k => G k ∨ W.heap.size ≤ k) (fun _ => False) hs hx hp (fun _ hk => hk.elim) (fun _ hk => .inr hk)
    (Kd.R_mono h1 (fun _ hk => .inl hk)) HS.below HS.size hl ?_
  intro v1 w1 hR hB hg _
  exact h v1 w1 (Sat.grew HS.below h2 h3 hR hB hg (fun k hk => h1.1 k hk)) hg.size
/-- A call that panics, in a region that draws its order. -/
theorem goesP_ {oi : Oper} {N : Option Tmp} {w : World} {K : Act → World → Prop} {f : FuncId} {fn : Func} {as_ : Array Operand} {ts : Array TypeId} (hf : P.funcs[f]? = some fn) (hname : (fn.name == "runtime.NumGoroutine") = false) (hb : fn.body.isSome = true) (args : Array Value)
    (hw : Region.wanted oi (yielded ops a.tmps) = true) (hop : oi.op = .call { callee := .value (.func f), args := as_, argTypes := ts }) (hargs : as_.map a.eval = args) (chain : List PanicEntry)
    (h : Calls P f args w fun e w' => e = .panicked chain ∧ Q (.panic chain) a w') : if Region.wanted oi (yielded ops a.tmps) = true then Oper.wp P oi a w K Q else K (a.put N undef) w := by
  rw [if_pos hw]
  have he := enters_ hf hname hb args w
  have hrun : (execOp a.eval oi).run P w = .ok (.enter f args) w := by
    unfold execOp
    simp [hop, resolve, Deferred.ofValue, invoke, Act.eval, hargs, he]
  unfold Oper.wp
  rw [hrun, Oper.upon_enter]
  refine h.mono ?_
  rintro e w' ⟨rfl, hq⟩
  exact hq
end
end Go.Proofs.Ytmdebnfjhnhcjaa.Sl
namespace Go.Proofs.Ytmdebnfjhnhcjaa.PlM
open Go.RowKit Go.Proofs.YtmdebnfjhnhcjaaW.PrintWords Go.Proofs.YtmdebnfjhnhcjaaW.PrintLast Go.Proofs.YtmdebnfjhnhcjaaW.PrintMore Go.Proofs.Ytmdebnfjhnhcjaa.QB Go.Proofs.Ytmdebnfjhnhcjaa.Sl Go.Proofs.Ytmdebnfjhnhcjaa.PlI
set_option linter.unusedVariables false
set_option linter.unusedSimpArgs false
theorem Seps.perm {B : Nat} {w : World} {L L' : List Asn} (h : L.Perm L') : ∀ {F : Nat → Prop}, Seps B w L F → Seps B w L' F := by
  induction h with
  | nil => exact id
  | cons x _ ih => exact fun ⟨G, h1, h2, h3⟩ => ⟨G, h1, h2, ih h3⟩
  | swap x y l => exact Seps.swap
  | trans _ _ ih1 ih2 => exact fun h => ih2 (ih1 h)
theorem Sat.perm {w0 w : World} {L L' : List Asn} (h : Sat w0 w L) (hp : L.Perm L') : Sat w0 w L' := ⟨h.below, Seps.perm hp h.seps⟩
theorem set_perm {α : Type _} : ∀ {l : List α} {i : Nat}, i < l.length → ∀ a : α, (l.set i a).Perm (a :: l.eraseIdx i)
  | [], i, h, _ => by cases h
  | b :: r, 0, _, a => List.Perm.refl _
  | b :: r, i + 1, h, a => by
    rw [List.set_cons_succ, List.eraseIdx_cons_succ]
    exact (List.Perm.cons b (set_perm (by simpa using h) a)).trans (List.Perm.swap _ _ _)
abbrev tO : Nat := 41
abbrev tL : Nat := 39
abbrev Hd := Option Addr × Nat × Nat
def hv (h : Hd) : Value := .slice h.1 h.2.1 h.2.2
def kH : Kd Hd := Kd.scalar hv (fun _ => rfl)
def Ins : List Hd → List (List Ow) → List Asn
  | h :: hs, l :: ss => Row kO tO (hv h) l :: Ins hs ss
  | _, _ => []
theorem Ins_get : ∀ {hs : List Hd} {ss : List (List Ow)} {i : Nat} {h : Hd} {l : List Ow}, hs[i]? = some h → ss[i]? = some l → (Ins hs ss)[i]? = some (Row kO tO (hv h) l)
  | [], _, _, _, _, h1, _ => by simp at h1
  | _ :: _, [], _, _, _, _, h2 => by simp at h2
  | a :: hs, b :: ss, 0, h, l, h1, h2 => by
    simp at h1 h2
    subst h1 h2
    rfl
  | a :: hs, b :: ss, i + 1, h, l, h1, h2 => by
    simp at h1 h2
    show (Ins hs ss)[i]? = _
    exact Ins_get h1 h2
theorem Ins_length : ∀ {hs : List Hd} {ss : List (List Ow)}, hs.length = ss.length → (Ins hs ss).length = ss.length
  | [], [], _ => rfl
  | [], _ :: _, h => by simp at h
  | _ :: _, [], h => by simp at h
  | _ :: hs, _ :: ss, h => by
    show (Ins hs ss).length + 1 = ss.length + 1
    rw [Ins_length (by simpa using h)]
theorem Ins_set : ∀ {hs : List Hd} {ss : List (List Ow)} {i : Nat} (h : Hd) (l : List Ow), Ins (hs.set i h) (ss.set i l) = (Ins hs ss).set i (Row kO tO (hv h) l)
  | [], _, _, _, _ => by simp [Ins]
  | _ :: _, [], _, _, _ => by simp [Ins]
  | _ :: _, _ :: _, 0, _, _ => rfl
  | a :: hs, b :: ss, i + 1, h, l => by
    show Row kO tO (hv a) b :: Ins (hs.set i h) (ss.set i l) = Row kO tO (hv a) b :: (Ins hs ss).set i _
    rw [Ins_set]
theorem Ins_snoc : ∀ {hs : List Hd} {ss : List (List Ow)} (h : Hd) (l : List Ow), hs.length = ss.length → Ins (hs ++ [h]) (ss ++ [l]) = Ins hs ss ++ [Row kO tO (hv h) l]
  | [], [], _, _, _ => rfl
  | [], _ :: _, _, _, h => by simp at h
  | _ :: _, [], _, _, h => by simp at h
  | a :: hs, b :: ss, h, l, e => by
    show Row kO tO (hv a) b :: Ins (hs ++ [h]) (ss ++ [l]) = Row kO tO (hv a) b :: (Ins hs ss ++ [_])
    rw [Ins_snoc h l (by simpa using e)]
/-- A row of rows. -/
def Shs (v : Value) (ss : List (List Ow)) : Asn := Ex fun hs : List Hd => All (Fact (hs.length = ss.length) :: Row kH tL v hs :: Ins hs ss)
/-- The same, but for one row that is lent. -/
def ShsH (v : Value) (ss : List (List Ow)) (i : Nat) : Asn := Ex fun hs : List Hd => All (Fact (hs.length = ss.length) :: Row kH tL v hs :: (Ins hs ss).eraseIdx i)
section
variable {w0 w : World} {L : List Asn} {v : Value} {ss : List (List Ow)}
theorem Shs.open (h : Sat w0 w (Shs v ss :: L)) : ∃ hs : List Hd, hs.length = ss.length ∧ Sat w0 w (Row kH tL v hs :: (Ins hs ss ++ L)) := by
  obtain ⟨hs, h1⟩ := h.some_
  have h2 := h1.opened
  exact ⟨hs, h2.fact, h2.tail⟩
theorem Shs.mk {hs : List Hd} (hl : hs.length = ss.length) (h : Sat w0 w (Row kH tL v hs :: (Ins hs ss ++ L))) : Sat w0 w (Shs v ss :: L) :=
  Sat.any hs (Sat.closed (h.put hl))
theorem row_scalar {hs : List Hd} (h : Sat w0 w (Row kH tL v hs :: L)) (i : Nat) (hi : i < hs.length) : ∃ gb cap, v = .slice (some ⟨gb, 0, none⟩) hs.length cap ∧ w.cell? ⟨gb, i, none⟩ = some (hv (hs.getD i (none, 0, 0))) ∧ w.frozen? ⟨gb, i, none⟩ = false ∧ w0.heap.size ≤ gb ∧ gb < w.heap.size := by
  obtain ⟨gb, cap, rfl, h1, h2⟩ := h.rowBlock (by omega)
  obtain ⟨G, hg, hG⟩ := h.get
  have h3 := Kd.R_celln (none, 0, 0) hg (i : Int) (by omega) (by omega)
  rw [Int.toNat_natCast] at h3
  refine ⟨gb, cap, rfl, ?_, h3.2, h1, h2⟩
  rw [h3.1]
  simp [rdOf]
theorem row_put {hs : List Hd} {gb cap n : Nat} (h : Sat w0 w (Row kH tL (.slice (some ⟨gb, 0, none⟩) n cap) hs :: L)) (i : Nat) (x : Hd) : Sat w0 (w.setCell ⟨gb, i, none⟩ (hv x)) (Row kH tL (.slice (some ⟨gb, 0, none⟩) n cap) (hs.set i x) :: L) := by
  have hb := h.below
  refine h.turn (fun G hG hGB => ?_)
  have h2 := Kd.R_putn hG (i : Int) x
  rw [Int.toNat_natCast] at h2
  have hg := hG.1 gb rfl
  have hgb := hGB gb hg
  exact ⟨G, h2, hb.setCell (p := ⟨gb, i, none⟩) hgb.1 _, by simp [World.setCell], fun j _ hn => Below.heap_setCell w ⟨gb, i, none⟩ _ j (fun e => hn (by rw [e]; exact hg)), fun j hj => ⟨.inl hj, by simpa [World.setCell] using (hGB j hj).2⟩⟩
/-- The row, as it is read. -/
theorem Shs.read (h : Sat w0 w (Shs v ss :: L)) : ∃ A c, v = .slice A ss.length c ∧ ss.length ≤ c ∧ Kd.C (Kd.slice tO kO) w A ss.length ss := by
  obtain ⟨hs, hl, h1⟩ := Shs.open h
  obtain ⟨A, c, rfl, hc, hC⟩ := h1.rowSlice
  rw [hl] at hc hC ⊢
  refine ⟨A, c, rfl, hc, rfl, hC.2.1, fun hn => ?_⟩
  obtain ⟨ad, e, hcell⟩ := hC.2.2 hn
  refine ⟨ad, e, fun j l hj => ?_⟩
  have hjl := (List.getElem?_eq_some_iff.1 hj).1
  obtain ⟨x, hx⟩ : ∃ x, hs[j]? = some x := ⟨_, List.getElem?_eq_getElem (by omega)⟩
  obtain ⟨cs, h3, h4, h5⟩ := hcell j x hx
  have h4' : cs = [hv x] := h4
  subst h4'
  have h6 := (h1.nth (j + 1) (A := Row kO tO (hv x) l) (by
    rw [List.getElem?_cons_succ, List.getElem?_append_left (by rw [Ins_length hl]; omega)]
    exact Ins_get hx hj)).rowSlice
  obtain ⟨A', c', e', hc', hC'⟩ := h6
  exact ⟨[hv x], rfl, ⟨A', c', by rw [e'], hc', hC'⟩, h5⟩
/-- One row is lent. -/
theorem Shs.lend (h : Sat w0 w (Shs v ss :: L)) (i : Nat) (hi : i < ss.length) : ∃ gb cap A c, v = .slice (some ⟨gb, 0, none⟩) ss.length cap ∧ w.cell? ⟨gb, i, none⟩ = some (.slice A ss[i].length c) ∧ ss[i].length ≤ c ∧ w.frozen? ⟨gb, i, none⟩ = false ∧ gb < w.heap.size ∧ Sat w0 w (Row kO tO (.slice A ss[i].length c) ss[i] :: ShsH v ss i :: L) := by
  obtain ⟨hs, hl, h1⟩ := Shs.open h
  obtain ⟨gb, cap, rfl, h2, h3, h4, h5⟩ := row_scalar h1 i (by omega)
  have hx : hs[i]? = some hs[i] := List.getElem?_eq_getElem (by omega)
  have hgd : hs.getD i (none, 0, 0) = hs[i] := by rw [List.getD_eq_getElem?_getD, hx]; rfl
  rw [hgd] at h2
  have h6 := h1.nth (i + 1) (A := Row kO tO (hv hs[i]) ss[i]) (by
    rw [List.getElem?_cons_succ, List.getElem?_append_left (by rw [Ins_length hl]; omega)]
    exact Ins_get hx (List.getElem?_eq_getElem hi))
  obtain ⟨A, c, e, hc, _⟩ := h6.rowSlice
  refine ⟨gb, cap, A, c, by rw [hl], by rw [h2, e], hc, h3, h5, ?_⟩
  rw [e] at h6
  have h7 : Sat w0 w (Row kO tO (.slice A ss[i].length c) ss[i] :: Row kH tL (.slice (some ⟨gb, 0, none⟩) hs.length cap) hs :: ((Ins hs ss).eraseIdx i ++ L)) := by
    have e2 : (Row kH tL (.slice (some ⟨gb, 0, none⟩) hs.length cap) hs :: (Ins hs ss ++ L)).eraseIdx (i + 1) = Row kH tL (.slice (some ⟨gb, 0, none⟩) hs.length cap) hs :: ((Ins hs ss).eraseIdx i ++ L) := by
      rw [List.eraseIdx_cons_succ, List.eraseIdx_append_of_lt_length (by rw [Ins_length hl]; omega)]
    rw [e2] at h6
    exact h6
  have h8 : Sat w0 w (Row kH tL (.slice (some ⟨gb, 0, none⟩) hs.length cap) hs :: ((Ins hs ss).eraseIdx i ++ (Row kO tO (.slice A ss[i].length c) ss[i] :: L))) := by
    refine Sat.perm h7 ?_
    refine (List.Perm.swap _ _ _).trans (List.Perm.cons _ ?_)
    exact (List.perm_middle).symm
  have h9 : Sat w0 w (ShsH (.slice (some ⟨gb, 0, none⟩) hs.length cap) ss i :: (Row kO tO (.slice A ss[i].length c) ss[i] :: L)) := Sat.any hs (Sat.closed (h8.put hl))
  exact h9.nth 1 rfl
/-- A row is given back, into its place. -/
theorem ShsH.put {i : Nat} {A : Option Addr} {c : Nat} {l : List Ow} {gb cap n : Nat} (h : Sat w0 w (Row kO tO (.slice A l.length c) l :: ShsH (.slice (some ⟨gb, 0, none⟩) n cap) ss i :: L)) (hi : i < ss.length) : Sat w0 (w.setCell ⟨gb, i, none⟩ (.slice A l.length c)) (Shs (.slice (some ⟨gb, 0, none⟩) n cap) (ss.set i l) :: L) := by
  have h1 := h.nth 1 (A := ShsH (.slice (some ⟨gb, 0, none⟩) n cap) ss i) rfl
  obtain ⟨hs, h2⟩ := h1.some_
  have h3 := h2.opened
  have hl := h3.fact
  have h4 := row_put h3.tail i (A, l.length, c)
  refine Shs.mk (hs := hs.set i (A, l.length, c)) (by rw [List.length_set, List.length_set]; exact hl) ?_
  refine Sat.perm h4 (List.Perm.cons _ ?_)
  rw [Ins_set]
  have hp := set_perm (l := Ins hs ss) (i := i) (by rw [Ins_length hl]; exact hi) (Row kO tO (hv (A, l.length, c)) l)
  refine List.Perm.trans ?_ (hp.symm.append_right L)
  exact List.perm_middle
/-- What is told of it to whom it is handed. -/
theorem ins_S {B : Nat} : ∀ {hs : List Hd} {ss : List (List Ow)} {F : Nat → Prop}, Seps B w (Ins hs ss ++ L) F → ∃ f : Nat → Nat, ∀ (i : Nat) (h : Hd) (l : List Ow), hs[i]? = some h → ss[i]? = some l → Kd.R kO tO w B (fun k => F k ∧ f k = i) (hv h) l
  | [], _, _, _ => ⟨fun _ => 0, fun i h l h1 => by simp at h1⟩
  | _ :: _, [], _, _ => ⟨fun _ => 0, fun i h l _ h2 => by simp at h2⟩
  | a :: hs, b :: ss, F, ⟨G, h1, h2, h3⟩ => by
    obtain ⟨f, hf⟩ := ins_S (hs := hs) (ss := ss) h3
    classical
    refine ⟨fun k => if G k then 0 else f k + 1, fun i h l e1 e2 => ?_⟩
    cases i with
    | zero =>
      simp at e1 e2
      subst e1 e2
      exact Kd.R_mono h1 fun k hk => ⟨h2 k hk, if_pos hk⟩
    | succ i =>
      simp at e1 e2
      exact Kd.R_mono (hf i h l e1 e2) fun k hk => ⟨hk.1.1, by show (if G k then 0 else f k + 1) = i + 1; rw [if_neg hk.1.2, hk.2]⟩
theorem Shs.S (h : Sat w0 w (Shs v ss :: L)) : Kd.S (Kd.slice tO kO) tL w w0.heap.size (fun k => w0.heap.size ≤ k ∧ k < w.heap.size) v ss := by
  obtain ⟨hs, hl, h1⟩ := Shs.open h
  obtain ⟨G, hg, h2, h3⟩ := h1.seps
  obtain ⟨f, hf⟩ := ins_S h3
  obtain ⟨h0, inner, ho, hr⟩ := hg
  refine ⟨f, fun k hk => h2 k (h0 k hk), inner, by rw [List.length_zipIdx, ← hl]; exact ho, ?_⟩
  refine ⟨by rw [hr.1, List.length_zipIdx, hl]; rfl, fun j p hj => ?_⟩
  rw [List.getElem?_zipIdx] at hj
  obtain ⟨l, hl2, rfl⟩ := Option.map_eq_some_iff.1 hj
  have hjl := (List.getElem?_eq_some_iff.1 hl2).1
  obtain ⟨x, hx⟩ : ∃ x, hs[j]? = some x := ⟨_, List.getElem?_eq_getElem (by omega)⟩
  have h5 : (inner.drop (j * 1)).take 1 = [hv x] := hr.2 j x hx
  refine ⟨hv x, h5, ?_⟩
  have h6 := hf j x l hx hl2
  refine Kd.R_mono h6 fun k hk => ⟨⟨⟨hk.1.1.1, hk.1.1.2⟩, fun e => hk.1.2 (h0 k e.symm)⟩, by rw [hk.2]; simp⟩
end
end Go.Proofs.Ytmdebnfjhnhcjaa.PlM
