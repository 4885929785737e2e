/- What the document's Files come to.
   What the small calls of the document's disk come to. -/
import Derived.Test.YtlngljhinboglaaZDiskSynced9
namespace Go.Proofs.Ytlngljhinboglaa.DkF
open Go.RowKit Go.WideMaps Go.ChangeMaps Go.MapKept Go.Maps Go.Lib Go.Proofs.YtlngljhinboglaaW.PrintWords Go.Proofs.YtlngljhinboglaaW.PrintLast Go.Proofs.YtlngljhinboglaaW.PrintMore Go.Proofs.Ytlngljhinboglaa.QB Go.Proofs.Ytlngljhinboglaa.Sl Go.Proofs.Ytlngljhinboglaa.DkP Go.Proofs.Ytlngljhinboglaa.DkS Go.Proofs.Ytlngljhinboglaa.DkW Go.Proofs.Ytlngljhinboglaa.DkT Go.Proofs.Ytlngljhinboglaa.DkV Go.Proofs.Ytlngljhinboglaa.DkC Go.Proofs.Ytlngljhinboglaa.DkR Go.Proofs.Ytlngljhinboglaa.DkE
set_option linter.unusedVariables false
set_option linter.unusedSimpArgs false
abbrev kF := k48
abbrev kC := k72
abbrev tF : Nat := 48
abbrev tC : Nat := 72
abbrev tD : Nat := 67
def chR : Ch → S72
  | .app a s => ⟨0, a, s⟩
  | .ren a b => ⟨1, a, b⟩
  | .rem a => ⟨2, a, ⟨#[]⟩⟩
/-- A change that has its source. -/
def Vd1 (c : Ch) (f : FS Cnt) : Prop := match c with
  | .app _ _ => True
  | .ren a _ => get (nm a) f ≠ none
  | .rem _ => True
def goAll : List Ch → FS Cnt → FS Cnt
  | [], f => f
  | c :: r, f => goAll r (c.go c.size f)
def Vd : List Ch → FS Cnt → Prop
  | [], _ => True
  | c :: r, f => Vd1 c f ∧ Vd r (c.go c.size f)
theorem goAll_snoc : ∀ (l : List Ch) (c : Ch) (f : FS Cnt), goAll (l ++ [c]) f = c.go c.size (goAll l f)
  | [], c, f => rfl
  | b :: r, c, f => by rw [List.cons_append, goAll, goAll, goAll_snoc r]
theorem Vd_snoc : ∀ (l : List Ch) (c : Ch) (f : FS Cnt), Vd (l ++ [c]) f ↔ Vd l f ∧ Vd1 c (goAll l f)
  | [], c, f => by simp [Vd, goAll]
  | b :: r, c, f => by rw [List.cons_append, Vd, Vd, goAll, Vd_snoc r, and_assoc]
theorem Vd_take : ∀ (l : List Ch) (i : Nat) (f : FS Cnt), Vd l f → Vd (l.take i) f
  | l, 0, f, _ => by rw [List.take_zero]; trivial
  | [], i + 1, f, _ => by simp [Vd]
  | b :: r, i + 1, f, h => by rw [List.take_succ_cons]; exact ⟨h.1, Vd_take r i _ h.2⟩
theorem goAll_at {l : List Ch} {f : FS Cnt} (h : Vd l f) {i : Nat} {c : Ch} (hc : l[i]? = some c) : Vd1 c (goAll (l.take i) f) ∧ goAll (l.take (i + 1)) f = c.go c.size (goAll (l.take i) f) := by
  have e : l.take (i + 1) = l.take i ++ [c] := by rw [List.take_add_one, hc]; rfl
  have h2 := Vd_take l (i + 1) f h
  rw [e] at h2 ⊢
  exact ⟨((Vd_snoc _ _ _).1 h2).2, goAll_snoc _ _ _⟩
theorem goAll_ok : ∀ (l : List Ch) {f : FS Cnt}, Rising f → Rising (goAll l f) ∧ (goAll l f).length ≤ f.length + l.length ∧ tot (goAll l f) ≤ tot f + wt l
  | [], f, h => ⟨h, Nat.le_refl _, Nat.le_refl _⟩
  | c :: r, f, h => by
    obtain ⟨h1, h2, h3⟩ := goAll_ok r (c.go_rising c.size h)
    have h4 := c.go_length c.size f
    have h5 := go_tot (Nat.le_refl c.size) h
    refine ⟨h1, ?_, ?_⟩
    · rw [goAll, List.length_cons]; omega
    · rw [goAll, wt]; omega
structure Rok (d : DS) (N S : Nat) : Prop where
  ok : Ok d N S
  fl : goAll d.pend d.lasting = d.files
  vd : Vd d.pend d.lasting
section
variable {f : FS Cnt} {A : Option Addr} {k : Nat} {w : World}
def DoneTo (w : World) (A : Option Addr) (k : Nat) (f g : FS Cnt) (e : Ending) (w' : World) : Prop := ∃ A' k', e = .returned (.slice A' (ofFS g).length k') ∧ (ofFS g).length ≤ k' ∧ Kd.C kF w' A' (ofFS g).length (ofFS g) ∧ Below w.heap.size w w' ∧ ((A' = A ∧ k' = k ∧ g = f) ∨ Kd.R kF tF w' w.heap.size (fun _ => True) (.slice A' (ofFS g).length k') (ofFS g))
theorem of_new {g : FS Cnt} {e : Ending} {w' : World} (h : ∃ v : Value, e = .returned v ∧ Kd.R kF tF w' w.heap.size (fun _ => True) v (ofFS g) ∧ Below w.heap.size w w') : DoneTo w A k f g e w' := by
  obtain ⟨v, rfl, hR, hB⟩ := h
  obtain ⟨A', k', rfl⟩ := Kd.R_slice hR
  exact ⟨A', k', rfl, (Kd.R_reads' hR).2.1, (Kd.R_reads' hR).2.2, hB, Or.inr hR⟩
theorem of_same (hC : Kd.C kF w A (ofFS f).length (ofFS f)) (hc : (ofFS f).length ≤ k) {g : FS Cnt} (hg : g = f) {e : Ending} {w' : World} (h : e = .returned (.slice A (ofFS f).length k) ∧ Below w.heap.size w w') : DoneTo w A k f g e w' := by
  obtain ⟨rfl, hB⟩ := h
  subst hg
  exact ⟨A, k, rfl, hc, Kd.C_below hC hB, hB, Or.inl ⟨rfl, rfl, rfl⟩⟩
theorem done_any (c : Ch) (hr : Rising f) (hl : f.length ≤ 900000) (ht : tot f ≤ 68719476736) (hf : Fit c) (hv : Vd1 c f) (hC : Kd.C kF w A (ofFS f).length (ofFS f)) (hc : (ofFS f).length ≤ k) :
    Calls Try.prog 43 #[.slice A (ofFS f).length k, .agg #[.int .i64 (chR c).f0, .string (chR c).f1, .string (chR c).f2]] w (DoneTo w A k f (c.go c.size f)) := by
  have hm : maxLen = 9223372036854775807 := rfl
  cases c with
  | app a s =>
    have ha : a.size ≤ maxLen := by have := hf.1; omega
    cases hg : get (nm a) f with
    | none => exact (done_app_new hr a s hl ha hf.2 hg hC hc).mono fun e w' h => of_new h
    | some v =>
      have hvl : v.length ≤ 68719476736 := by
        have := len_le_tot (k := nm a) hr
        rw [hg] at this
        exact Nat.le_trans this ht
      exact (done_app_more hr a s hl ha hf.2 hvl hg hC hc).mono fun e w' h => of_new h
  | ren a b =>
    have ha : a.size ≤ maxLen := by have := hf.1; omega
    have hb : b.size ≤ maxLen := by have := hf.2; omega
    by_cases hab : a = b
    · subst hab
      refine (done_ren_same hr a hl ha hv hC hc).mono fun e w' h => of_same hC hc ?_ h
      cases hg : get (nm a) f with
      | none => exact absurd hg hv
      | some v =>
        show DkP.put (nm a) ((get (nm a) f).getD []) (del (nm a) f) = f
        rw [hg]
        exact put_self hr hg
    · cases hg : get (nm a) f with
      | none => exact absurd hg hv
      | some v => exact (done_ren_other hr a b hl ha hb hab hg hC hc).mono fun e w' h => of_new h
  | rem a =>
    have ha : a.size ≤ maxLen := by have : a.size ≤ 40 := hf; omega
    cases hg : get (nm a) f with
    | none => exact (done_rem_none hr a ⟨#[]⟩ hl ha hg hC hc).mono fun e w' h => of_same hC hc (del_of_none hg) h
    | some v => exact (done_rem_some hr a ⟨#[]⟩ hl ha (by rw [hg]; simp) hC hc).mono fun e w' h => of_new h
end
/-! A document's disk, at block g. -/
def rcells (d : DS) (lv pv : Value) : Array Value := #[.int .i64 d.room, lv, pv, .int .i64 d.ops, .bool false, .int .i64 0, .int .i64 0, .int .i64 0, .bool false]
def Rk (g : Nat) (d : DS) : Asn := Ex fun q : Value × Value => All [Blk g (rcells d q.1 q.2) tD, Row kF tF q.1 (ofFS d.lasting), Row kC tC q.2 (d.pend.map chR)]
theorem Rk.open {w0 w : World} {L : List Asn} {g : Nat} {d : DS} (h : Sat w0 w (Rk g d :: L)) : ∃ A0 c0 A1 c1, (ofFS d.lasting).length ≤ c0 ∧ (d.pend.map chR).length ≤ c1 ∧ Sat w0 w (Blk g (rcells d (.slice A0 (ofFS d.lasting).length c0) (.slice A1 (d.pend.map chR).length c1)) tD :: Row kF tF (.slice A0 (ofFS d.lasting).length c0) (ofFS d.lasting) :: Row kC tC (.slice A1 (d.pend.map chR).length c1) (d.pend.map chR) :: L) := by
  obtain ⟨⟨lv, pv⟩, h1⟩ := h.some_
  have h2 := h1.opened
  obtain ⟨A0, c0, e0, hc0, _⟩ := (h2.nth 1 rfl).rowSlice
  obtain ⟨A1, c1, e1, hc1, _⟩ := (h2.nth 2 rfl).rowSlice
  simp only at e0 e1 h2
  refine ⟨A0, c0, A1, c1, hc0, hc1, ?_⟩
  rw [← e0, ← e1]
  exact h2
theorem Rk.mk {w0 w : World} {L : List Asn} {g : Nat} {d : DS} {lv pv : Value} (h : Sat w0 w (Blk g (rcells d lv pv) tD :: Row kF tF lv (ofFS d.lasting) :: Row kC tC pv (d.pend.map chR) :: L)) : Sat w0 w (Rk g d :: L) := Sat.any (lv, pv) (Sat.closed h)
/-- A row that is the one at v0, or another. -/
def Out (v v0 : Value) (l l0 : List Fi) : Asn := ⟨fun B w F => (v = v0 ∧ l = l0) ∨ Kd.R kF tF w B F v l, fun h hw => h.imp id fun h => Kd.R_move h hw⟩
section
variable {w0 w w' : World} {L : List Asn} {X : Asn} {v v0 v' : Value} {l l0 l' : List Fi}
theorem Out.start (h : Sat w0 w L) : Sat w0 w (Out v0 v0 l0 l0 :: L) := ⟨h.below, fun _ => False, Or.inl ⟨rfl, rfl⟩, fun _ hk => hk.elim, h.seps.mono (fun _ hk => ⟨hk, fun h => h⟩)⟩
theorem Out.read (h : Sat w0 w (Out v v0 l l0 :: X :: Row kF tF v0 l0 :: L)) : ∃ A c, v = .slice A l.length c ∧ l.length ≤ c ∧ Kd.C kF w A l.length l := by
  obtain ⟨G, hg, _⟩ := h.get
  rcases hg with ⟨rfl, rfl⟩ | hR
  · exact (h.nth 2 rfl).rowSlice
  · obtain ⟨A, c, rfl⟩ := Kd.R_slice hR
    exact ⟨A, c, rfl, (Kd.R_reads' hR).2.1, (Kd.R_reads' hR).2.2⟩
theorem Out.own (h : Sat w0 w (Out v v0 l l0 :: X :: Row kF tF v0 l0 :: L)) : Sat w0 w (X :: Row kF tF v l :: L) := by
  by_cases e : v = v0 ∧ l = l0
  · obtain ⟨rfl, rfl⟩ := e
    exact h.tail
  · have h1 : Sat w0 w (Row kF tF v l :: X :: Row kF tF v0 l0 :: L) := h.imp fun G hg => hg.resolve_left e
    exact ((h1.nth 1 rfl).nth 2 rfl).tail
theorem Out.more (h : Sat w0 w (Out v v0 l l0 :: L)) (hb : Below w.heap.size w w') (hR : Kd.R kF tF w' w.heap.size (fun _ => True) v' l') : Sat w0 w' (Out v' v0 l' l0 :: L) :=
  (h.tail.made hb hR).imp fun G hg => Or.inr hg
end
theorem chR_at {l : List Ch} {i : Nat} {c : Ch} (h : l[i]? = some c) : rd_T72 (l.map chR) (i : Int) = chR c := by
  unfold rd_T72
  rw [Int.toNat_natCast, List.getD_eq_getElem?_getD, List.getElem?_map, h]
  rfl
set_option maxHeartbeats 8000000 in
set_option maxRecDepth 100000 in
theorem Files_calls (w0 w : World) (L : List Asn) (g : Nat) (d : DS) (N S : Nat) (hN : N ≤ 800000) (hS : S ≤ 68719476736) (ok : Rok d N S) (h : Sat w0 w (Rk g d :: L)) :
    Calls Try.prog 24 #[.pointer (some ⟨g, 0, none⟩)] w fun e w' => ∃ lv pv A c, e = .returned (.slice A (ofFS d.files).length c) ∧ (ofFS d.files).length ≤ c ∧ Kd.C kF w' A (ofFS d.files).length (ofFS d.files) ∧ Sat w0 w' (Rk g d :: L) ∧ Sat w0 w' (Blk g (rcells d lv pv) tD :: Row kF tF (.slice A (ofFS d.files).length c) (ofFS d.files) :: Row kC tC pv (d.pend.map chR) :: L) ∧ Below w.heap.size w w' := by
  obtain ⟨A0, c0, A1, c1, hc0, hc1, h1⟩ := Rk.open h
  have x0 := h1.cell 1 (v := .slice A0 (ofFS d.lasting).length c0) rfl
  have x1 := h1.cell 2 (v := .slice A1 (d.pend.map chR).length c1) rfl
  have H1 := Aside0.mk (Out.start (v0 := .slice A0 (ofFS d.lasting).length c0) (l0 := ofFS d.lasting) h1)
  have hB0 := Aside0.mk (Below.refl w.heap.size w)
  have OK := Aside0.mk ok
  have HC1 := Aside0.mk hc1
  obtain ⟨m, hm⟩ : ∃ m, (d.pend.map chR).length = m := ⟨_, rfl⟩
  have HM := Aside0.mk (show d.pend.length = m from by rw [← hm, List.length_map])
  have HMM := Aside0.mk hm
  have hmN : m ≤ 800000 := by
    have := ok.ok.nl
    have := HM.out
    omega
  rw [hm] at x1
  clear h h1 ok hc0 hc1
  go_enter Try.func24, Try.ntmps24
  go_wp2
  go_loopw [3, 4] (fun v3 v4 wr => ∃ (i : Nat) (A : Option Addr) (c : Nat), i ≤ m ∧ v3 = .slice A (ofFS (goAll (d.pend.take i) d.lasting)).length c ∧ v4 = .int .i64 i ∧ Aside0 (Below w.heap.size w wr) ∧ Aside0 (Sat w0 wr (Out (.slice A (ofFS (goAll (d.pend.take i) d.lasting)).length c) (.slice A0 (ofFS d.lasting).length c0) (ofFS (goAll (d.pend.take i) d.lasting)) (ofFS d.lasting) :: Blk g (rcells d (.slice A0 (ofFS d.lasting).length c0) (.slice A1 (d.pend.map chR).length c1)) tD :: Row kF tF (.slice A0 (ofFS d.lasting).length c0) (ofFS d.lasting) :: Row kC tC (.slice A1 (d.pend.map chR).length c1) (d.pend.map chR) :: L))) (fun _ v4 _ => (m - intOf v4).toNat)
  case atStart => exact ⟨0, A0, c0, Nat.zero_le _, rfl, rfl, hB0, H1⟩
  case round =>
    obtain ⟨i, A, c, him, rfl, rfl, HB, HS⟩ := hrel
    clear hB0 H1 x0 x1
    have x1 := (HS.out.nth 1 rfl).cell 2 (v := .slice A1 (d.pend.map chR).length c1) rfl
    rw [HMM.out] at x1
    by_cases hi : i < m
    rotate_left
    · have e1 : decide ((i : Int) < (m : Int)) = false := decide_eq_false (by omega)
      have e2 : decide (i < m) = false := decide_eq_false hi
      have HE := Aside0.mk (show goAll (d.pend.take i) d.lasting = d.files from by rw [List.take_of_length_le (by have := HM.out; omega)]; exact OK.out.fl)
      clear hi
      go_wp2
      go_ret
      have hs := HS.out
      rw [HE.out] at hs ⊢
      obtain ⟨A', c', e, hc', hC'⟩ := Out.read hs
      cases e
      exact ⟨_, _, A, c, rfl, hc', hC', Rk.mk hs.tail, Out.own hs, HB.out⟩
    · have e1 : decide ((i : Int) < (m : Int)) = true := decide_eq_true (by omega)
      have e2 : decide (i < m) = true := decide_eq_true hi
      have j1 : (0 : Int) ≤ (i : Int) := by omega
      have j2 : (i : Int) < (m : Int) := by omega
      obtain ⟨ch, hch⟩ : ∃ ch, d.pend[i]? = some ch := ⟨_, List.getElem?_eq_getElem (by have := HM.out; omega)⟩
      obtain ⟨ad, hA1, q0, q1, q2⟩ := at_T72 (HS.out.nth 3 rfl).rowC (i : Int) j1 (by rw [HMM.out]; exact j2)
      subst hA1
      rw [chR_at hch, Int.toNat_natCast] at q0 q1 q2
      obtain ⟨hvd, hgo⟩ := goAll_at OK.out.vd hch
      obtain ⟨hok1, hok2, hok3⟩ := goAll_ok (d.pend.take i) OK.out.ok.rl
      have hok2' : (goAll (d.pend.take i) d.lasting).length ≤ 900000 := by
        have := OK.out.ok.nl
        rw [List.length_take] at hok2
        omega
      have hok3' : tot (goAll (d.pend.take i) d.lasting) ≤ 68719476736 := by
        have := OK.out.ok.tl
        have := wt_take_le d.pend i
        omega
      obtain ⟨A', c', e, hc', hC'⟩ := Out.read HS.out
      cases e
      have HD := Aside0.mk (done_any ch hok1 hok2' hok3' (OK.out.ok.nm ch (List.mem_of_getElem? hch)) hvd hC' hc')
      rw [← hgo] at HD
      clear hok1 hok2 hok3 hok2' hok3' hvd hgo hc' hC' hch hi
      go_wp2_with (first | (go_at_call 43; go_loud ((with_reducible refine HD.out.mono ?_); rintro e w2 ⟨A', k', rfl, hk', hC', hB', hor⟩; have HB' := Aside0.mk hB'; have HOR := Aside0.mk hor; clear hk' hC' hB' hor)))
      go_round
      case measure => simp only [intOf]; omega
      case rel =>
        refine ⟨i + 1, A', k', by omega, rfl, congrArg (Value.int .i64) (by omega), ⟨below_step HB.out HB'.out⟩, ⟨?_⟩⟩
        rcases HOR.out with ⟨rfl, rfl, hg⟩ | hR
        · rw [hg]
          exact HS.out.step HB'.out
        · exact Out.more HS.out HB'.out hR
end Go.Proofs.Ytlngljhinboglaa.DkF
namespace Go.Proofs.Ytlngljhinboglaa.DkG
open Go.RowKit Go.WideMaps Go.ChangeMaps Go.MapKept Go.Maps Go.Lib Go.Proofs.YtlngljhinboglaaW.PrintWords Go.Proofs.YtlngljhinboglaaW.PrintLast Go.Proofs.YtlngljhinboglaaW.PrintMore Go.Proofs.Ytlngljhinboglaa.QB Go.Proofs.Ytlngljhinboglaa.Sl Go.Proofs.Ytlngljhinboglaa.DkP Go.Proofs.Ytlngljhinboglaa.DkS Go.Proofs.Ytlngljhinboglaa.DkW Go.Proofs.Ytlngljhinboglaa.DkT Go.Proofs.Ytlngljhinboglaa.DkV Go.Proofs.Ytlngljhinboglaa.DkC Go.Proofs.Ytlngljhinboglaa.DkR Go.Proofs.Ytlngljhinboglaa.DkE Go.Proofs.Ytlngljhinboglaa.DkF
set_option linter.unusedVariables false
set_option linter.unusedSimpArgs false
theorem ofFS_at {f : FS Cnt} {i : Nat} (h : i < f.length) : rd_T48 (ofFS f) (i : Int) = fi f[i] := by
  unfold rd_T48 ofFS
  rw [Int.toNat_natCast, List.getD_eq_getElem?_getD, List.getElem?_map, List.getElem?_eq_getElem h]
  rfl
theorem tot_take (f : FS Cnt) {i : Nat} (h : i < f.length) : tot (f.take (i + 1)) = tot (f.take i) + (fi f[i]).f1.size := by
  have hsn : ∀ (a : FS Cnt) (p : Nm × Cnt), tot (a ++ [p]) = tot a + p.2.length := by
    intro a p
    induction a with
    | nil => simp [tot]
    | cons q r ih => rw [List.cons_append, tot, tot, ih]; omega
  rw [List.take_add_one, List.getElem?_eq_getElem h]
  show tot (f.take i ++ [f[i]]) = _
  rw [hsn]
  simp [fi, ByteArray.size]
theorem tot_take_le : ∀ (f : FS Cnt) (i : Nat), tot (f.take i) ≤ tot f
  | [], i => by rw [List.take_nil]; exact Nat.le_refl _
  | p :: r, 0 => by rw [List.take_zero]; exact Nat.zero_le _
  | p :: r, i + 1 => by rw [List.take_succ_cons, tot, tot]; exact Nat.add_le_add_left (tot_take_le r i) _
set_option maxHeartbeats 8000000 in
set_option maxRecDepth 100000 in
theorem Used_calls (w0 w : World) (L : List Asn) (g : Nat) (d : DS) (N S : Nat) (hN : N ≤ 800000) (hS : S ≤ 68719476736) (ok : Rok d N S) (h : Sat w0 w (Rk g d :: L)) :
    Calls Try.prog 48 #[.pointer (some ⟨g, 0, none⟩)] w fun e w' => e = .returned (.int .i64 (tot d.files : Nat)) ∧ Sat w0 w' (Rk g d :: L) := by
  have H := Aside0.mk h
  have OK := Aside0.mk ok
  obtain ⟨m, hm⟩ : ∃ m, (ofFS d.files).length = m := ⟨_, rfl⟩
  have HM := Aside0.mk hm
  have HM2 := Aside0.mk (show d.files.length = m from by rw [← hm, ofFS_length])
  have hmN : m ≤ 800000 := by have := ok.ok.nf; have := HM2.out; omega
  have htN : tot d.files ≤ 68719476736 := by have := ok.ok.tf; omega
  clear h ok
  go_enter Try.func48, Try.ntmps48
  go_wp2_with (first | (go_at_call 24; go_loud ((with_reducible refine (Files_calls w0 _ _ g d N S hN hS OK.out H.out).mono ?_); rintro e w2 ⟨lv, pv, A, c, rfl, hc, hC, hs, _, hB⟩; rw [HM.out] at hc hC ⊢; have HC := Aside0.mk hC; have H2 := Aside0.mk hs; clear hc hC hs hB)))
  go_loopw [3, 5] (fun v3 v5 wr => ∃ (i : Nat), i ≤ m ∧ v3 = .int .i64 (tot (d.files.take i) : Nat) ∧ v5 = .int .i64 i ∧ wr = w2) (fun _ v5 _ => (m - intOf v5).toNat)
  case atStart => exact ⟨0, Nat.zero_le _, rfl, rfl, rfl⟩
  case round =>
    obtain ⟨i, him, rfl, rfl, rfl⟩ := hrel
    by_cases hi : i < m
    rotate_left
    · have e1 : decide ((i : Int) < (m : Int)) = false := decide_eq_false (by omega)
      have e2 : decide (i < m) = false := decide_eq_false hi
      have HE := Aside0.mk (show tot (d.files.take i) = tot d.files from by rw [List.take_of_length_le (by have := HM2.out; omega)])
      clear hi
      go_wp2
      go_ret
      rw [HE.out]
      exact ⟨rfl, H2.out⟩
    · have e1 : decide ((i : Int) < (m : Int)) = true := decide_eq_true (by omega)
      have e2 : decide (i < m) = true := decide_eq_true hi
      have j1 : (0 : Int) ≤ (i : Int) := by omega
      have j2 : (i : Int) < (m : Int) := by omega
      have hil : i < d.files.length := by have := HM2.out; omega
      obtain ⟨ad, hA1, q0, q1⟩ := at_T48 HC.out (i : Int) j1 j2
      subst hA1
      rw [ofFS_at hil, Int.toNat_natCast] at q1
      have ht := tot_take d.files hil
      have htl := tot_take_le d.files (i + 1)
      have HT := Aside0.mk ht
      clear q0 hi
      generalize hx : fi d.files[i] = x at q1 ht HT
      clear hx
      have ht1 : tot (d.files.take i) ≤ 68719476736 := by omega
      have hxs : x.f1.size ≤ 68719476736 := by omega
      clear ht htl
      generalize ht0 : tot (d.files.take i) = t at ht1 HT
      go_wp2
      go_round
      case measure => simp only [intOf]; omega
      case rel =>
        exact ⟨i + 1, by omega, by rw [HT.out]; exact congrArg (Value.int .i64) (by omega), congrArg (Value.int .i64) (by omega), trivial⟩
set_option maxHeartbeats 8000000 in
set_option maxRecDepth 100000 in
theorem Read_calls (w0 w : World) (L : List Asn) (g : Nat) (d : DS) (N S : Nat) (a : ByteArray) (hN : N ≤ 800000) (hS : S ≤ 68719476736) (ok : Rok d N S) (h : Sat w0 w (Rk g d :: L)) :
    Calls Try.prog 50 #[.pointer (some ⟨g, 0, none⟩), .string a] w fun e w' => e = .returned (.tuple #[.string ⟨((get (nm a) d.files).getD []).toArray⟩, .bool (get (nm a) d.files).isSome]) ∧ Sat w0 w' (Rk g d :: L) := by
  have H := Aside0.mk h
  have OK := Aside0.mk ok
  have hl : d.files.length ≤ 900000 := by have := ok.ok.nf; omega
  have HR := Aside0.mk ok.ok.rf
  clear h ok
  cases hg : get (nm a) d.files with
  | none =>
    have HI : (get (nm a) d.files).isSome = false := by rw [hg]; rfl
    clear hg
    go_enter Try.func50, Try.ntmps50
    go_wp2_with (first
      | (go_at_call 24; go_loud ((with_reducible refine (Files_calls w0 _ _ g d N S hN hS OK.out H.out).mono ?_); rintro e w2 ⟨lv, pv, A, c, rfl, hc, hC, hs, _, hB⟩; have HC := Aside0.mk hC; have HL := Aside0.mk hc; have H2 := Aside0.mk hs; clear hc hC hs hB))
      | (go_at_call 52; go_loud ((with_reducible refine (find_at HR.out a hl HC.out HL.out).mono ?_); rintro e w3 ⟨rfl, ⟨nd, rfl⟩⟩; rw [HI])))
    go_ret2
    exact ⟨rfl, H2.out.drewN nd⟩
  | some v =>
    obtain ⟨hlt, hat⟩ := get_some_pos HR.out hg
    have hlt2 : ((pos (nm a) d.files : Nat) : Int) < ((ofFS d.files).length : Int) := by rw [ofFS_length]; exact Int.ofNat_lt.2 hlt
    have HRD := Aside0.mk (rd_pos HR.out hg)
    have HLT := Aside0.mk hlt2
    have p1 := eq_true (Int.natCast_nonneg (pos (nm a) d.files))
    have q1 := eq_true hlt2
    have HI : (get (nm a) d.files).isSome = true := by rw [hg]; rfl
    clear hg hat hlt hlt2
    go_enter Try.func50, Try.ntmps50
    go_wp2_with (first
      | (go_at_call 24; go_loud ((with_reducible refine (Files_calls w0 _ _ g d N S hN hS OK.out H.out).mono ?_); rintro e w2 ⟨lv, pv, A, c, rfl, hc, hC, hs, _, hB⟩; have HC := Aside0.mk hC; have HL := Aside0.mk hc; have H2 := Aside0.mk hs; obtain ⟨ad, eA, y0, y1⟩ := at_T48 hC (pos (nm a) d.files : Nat) (Int.natCast_nonneg _) HLT.out; rw [HRD.out, Int.toNat_natCast] at y1; clear y0; cases eA; clear hc hC hs hB))
      | (go_at_call 52; go_loud ((with_reducible refine (find_at HR.out a hl HC.out HL.out).mono ?_); rintro e w3 ⟨rfl, ⟨nd, rfl⟩⟩; rw [HI])))
    go_ret2
    exact ⟨rfl, H2.out.drewN nd⟩
theorem Rk.cell {w0 w : World} {L : List Asn} {g : Nat} {d : DS} (h : Sat w0 w (Rk g d :: L)) : w.cell? ⟨g, 0, none⟩ = some (.int .i64 d.room) ∧ w.cell? ⟨g, 3, none⟩ = some (.int .i64 d.ops) ∧ w.cell? ⟨g, 4, none⟩ = some (.bool false) ∧ w.cell? ⟨g, 8, none⟩ = some (.bool false) ∧ w.frozen? ⟨g, 3, none⟩ = false := by
  obtain ⟨A0, c0, A1, c1, _, _, h1⟩ := Rk.open h
  exact ⟨h1.cell 0 rfl, h1.cell 3 rfl, h1.cell 4 rfl, h1.cell 8 rfl, h1.free 3⟩
set_option maxHeartbeats 8000000 in
set_option maxRecDepth 100000 in
theorem raw_calls (w0 w : World) (L : List Asn) (g : Nat) (d : DS) (N S : Nat) (hN : N ≤ 800000) (hS : S ≤ 68719476736) (ok : Rok d N S) (h : Sat w0 w (Rk g d :: L)) :
    Calls Try.prog 41 #[.pointer (some ⟨g, 0, none⟩)] w fun e w' => e = .returned (.int .i64 0) ∧ Sat w0 w' (Rk g { d with ops := d.ops + 1 } :: L) := by
  obtain ⟨x0, x3, x4, x8, f3⟩ := Rk.cell h
  obtain ⟨A0, c0, A1, c1, _, _, h1⟩ := Rk.open h
  have H1 := Aside0.mk (h1.setBlk 3 (.int .i64 (d.ops + 1)))
  have o0 := ok.ok.op0
  have o1 : d.ops ≤ 800000 := by have := ok.ok.op1; omega
  clear h h1 ok
  go_enter Try.func41, Try.ntmps41
  go_wp2
  go_ret
  exact ⟨rfl, Rk.mk (d := { d with ops := d.ops + 1 }) H1.out⟩
end Go.Proofs.Ytlngljhinboglaa.DkG
