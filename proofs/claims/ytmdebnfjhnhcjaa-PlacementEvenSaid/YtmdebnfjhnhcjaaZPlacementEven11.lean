/- The program's maker of placements: set, at a block of the call's own.
   The program's maker of placements: set, walked. -/
import Derived.Test.YtmdebnfjhnhcjaaZPlacementEven10
import Derived.Test.YtmdebnfjhnhcjaaZPlacementEven9
import Derived.OrdersHeld
import Derived.Outline
import Derived.WalkSpells
namespace Go.Proofs.Ytmdebnfjhnhcjaa.PmS
open Go.RowKit Go.Proofs.YtmdebnfjhnhcjaaW.PrintWords Go.Proofs.YtmdebnfjhnhcjaaW.PrintLast Go.Proofs.YtmdebnfjhnhcjaaW.PrintMore Go.Proofs.Ytmdebnfjhnhcjaa.QB Go.Proofs.Ytmdebnfjhnhcjaa.Sl Go.Proofs.Ytmdebnfjhnhcjaa.PlI Go.Proofs.Ytmdebnfjhnhcjaa.PlM Go.Proofs.Ytmdebnfjhnhcjaa.PlS Go.Proofs.Ytmdebnfjhnhcjaa.RlP Go.Proofs.Ytmdebnfjhnhcjaa.PmB Go.Proofs.Ytmdebnfjhnhcjaa.PmI
set_option linter.unusedVariables false
set_option linter.unusedSimpArgs false
/-! set, in plain words. -/
abbrev RisO (l : List Ow) : Prop := l.Pairwise fun x y => x.f0 < y.f0
theorem insL_split (o : Ow) : ∀ {A B : List Ow}, (∀ x ∈ A, x.f0 < o.f0) → (∀ x ∈ B, ¬ x.f0 < o.f0) → insL o (A ++ B) = A ++ o :: B
  | [], [], _, _ => rfl
  | [], b :: B, _, h => by
    rw [List.nil_append, insL, if_neg (h b (List.mem_cons_self ..)), List.nil_append]
  | a :: A, B, h1, h2 => by
    rw [List.cons_append, insL, if_pos (h1 a (List.mem_cons_self ..)), insL_split o (fun x hx => h1 x (List.mem_cons_of_mem _ hx)) h2]
    rfl
theorem getD_z {l : List Ow} {j : Nat} (h : j < l.length) : l.getD j PmB.zO = l[j] := by rw [List.getD_eq_getElem?_getD, List.getElem?_eq_getElem h]; rfl
theorem bs_take {l : List Ow} {n : Int} {i : Nat} (h : BsAt l n i) : ∀ x ∈ l.take i, x.f0 < n := fun x hx => by
  obtain ⟨j, hj, rfl⟩ := List.getElem_of_mem hx
  rw [List.getElem_take]
  have hj2 : j < l.length := by rw [List.length_take] at hj; omega
  have := h.2.1 j (by rw [List.length_take] at hj; omega)
  rwa [getD_z hj2] at this
theorem bs_drop {l : List Ow} {n : Int} {i k : Nat} (h : BsAt l n i) (hk : i ≤ k) : ∀ x ∈ l.drop k, n ≤ x.f0 := fun x hx => by
  obtain ⟨j, hj, rfl⟩ := List.getElem_of_mem hx
  rw [List.getElem_drop]
  have hj2 : k + j < l.length := by rw [List.length_drop] at hj; omega
  have := h.2.2 (k + j) (by omega) hj2
  rwa [getD_z hj2] at this
theorem ris_tail {l : List Ow} (hr : RisO l) {i : Nat} (hi : i < l.length) : ∀ x ∈ l.drop (i + 1), l[i].f0 < x.f0 := fun x hx => by
  obtain ⟨j, hj, rfl⟩ := List.getElem_of_mem hx
  rw [List.getElem_drop]
  exact List.pairwise_iff_getElem.1 hr i (i + 1 + j) hi (by rw [List.length_drop] at hj; omega) (by omega)
theorem unsetL_self {l : List Ow} {n : Int} (h : ∀ x ∈ l, x.f0 ≠ n) : unsetL l n = l := by
  unfold unsetL
  rw [List.filter_eq_self]
  intro x hx
  simpa using h x hx
theorem set_ins {l : List Ow} {o : Ow} {i : Nat} (hr : RisO l) (h : BsAt l o.f0 i) (ha : isAt l o.f0 i = false) : l.take i ++ o :: l.drop i = setL l o := by
  have hd : ∀ x ∈ l.drop i, o.f0 < x.f0 := fun x hx => by
    rcases Nat.lt_or_ge i l.length with hi | hi
    · have hne : l[i].f0 ≠ o.f0 := by
        unfold isAt at ha
        rw [decide_eq_true hi, getD_z hi] at ha
        simpa using ha
      have hge : o.f0 ≤ l[i].f0 := by
        have := h.2.2 i (Nat.le_refl _) hi
        rwa [getD_z hi] at this
      rw [List.drop_eq_getElem_cons hi] at hx
      rcases List.mem_cons.1 hx with rfl | hx
      · omega
      · have := ris_tail hr hi x hx
        omega
    · rw [List.drop_of_length_le hi] at hx
      cases hx
  unfold setL
  have hu : unsetL l o.f0 = l := unsetL_self fun x hx => by
    rw [← List.take_append_drop i l] at hx
    rcases List.mem_append.1 hx with hx | hx
    · have := bs_take h x hx; omega
    · have := hd x hx; omega
  rw [hu]
  conv => rhs; rw [← List.take_append_drop i l]
  exact (insL_split o (bs_take h) (fun x hx => by have := hd x hx; omega)).symm
theorem set_found {l : List Ow} {o : Ow} {i : Nat} (hr : RisO l) (h : BsAt l o.f0 i) (ha : isAt l o.f0 i = true) : l.set i o = setL l o := by
  unfold isAt at ha
  rw [Bool.and_eq_true] at ha
  have hi := of_decide_eq_true ha.1
  have he := of_decide_eq_true ha.2
  rw [getD_z hi] at he
  have hd := ris_tail hr hi
  rw [he] at hd
  unfold setL
  have hu : unsetL l o.f0 = l.take i ++ l.drop (i + 1) := by
    conv => lhs; rw [← List.take_append_drop i l, List.drop_eq_getElem_cons hi]
    unfold unsetL
    rw [List.filter_append, List.filter_cons_of_neg (by simp [he])]
    congr 1
    · exact unsetL_self fun x hx => by have := bs_take h x hx; omega
    · exact unsetL_self fun x hx => by have := hd x hx; omega
  rw [hu, insL_split o (bs_take h) (fun x hx => by have := hd x hx; omega), List.set_eq_take_append_cons_drop, if_pos hi]
theorem ris_set {l : List Ow} (o : Ow) (hr : RisO l) : RisO (setL l o) := by
  have hu : RisO (unsetL l o.f0) := List.Pairwise.filter _ hr
  have hne : ∀ x ∈ unsetL l o.f0, x.f0 ≠ o.f0 := fun x hx => by
    unfold unsetL at hx
    have := (List.mem_filter.1 hx).2
    simpa using this
  unfold setL
  generalize unsetL l o.f0 = u at hu hne
  clear hr
  induction u with
  | nil => exact List.pairwise_singleton _ _
  | cons x r ih =>
    have h1 := List.pairwise_cons.1 hu
    rw [insL]
    split
    · rename_i hlt
      refine List.pairwise_cons.2 ⟨fun y hy => ?_, ih h1.2 fun y hy => hne y (List.mem_cons_of_mem _ hy)⟩
      have : y = o ∨ y ∈ r := by
        clear ih hne hu h1 hlt
        induction r with
        | nil => rw [insL] at hy; exact .inl (List.mem_singleton.1 hy)
        | cons z r ih =>
          rw [insL] at hy
          split at hy
          · rcases List.mem_cons.1 hy with rfl | hy
            · exact .inr (List.mem_cons_self ..)
            · exact (ih hy).elim .inl fun h => .inr (List.mem_cons_of_mem _ h)
          · rcases List.mem_cons.1 hy with rfl | hy
            · exact .inl rfl
            · exact .inr hy
      rcases this with rfl | hy
      · exact hlt
      · exact h1.1 y hy
    · rename_i hlt
      have hxo : o.f0 < x.f0 := by
        have := hne x (List.mem_cons_self ..)
        omega
      exact List.pairwise_cons.2 ⟨fun y hy => by
        rcases List.mem_cons.1 hy with rfl | hy
        · exact hxo
        · have := h1.1 y hy
          omega, hu⟩
abbrev tM : Nat := 63
/-- A maker at block g. -/
def Mk (g : Nat) (ver : Int) (ns : List Int) (ss : List (List Ow)) : Asn := Ex fun q : Value × Value => All [Blk g #[.int .i64 ver, q.1, q.2] tM, Row (Kd.int .i64) tI q.1 ns, Shs q.2 ss]
section
variable {w0 w : World} {L : List Asn} {g : Nat} {ver : Int} {ns : List Int} {ss : List (List Ow)}
theorem Mk.open (h : Sat w0 w (Mk g ver ns ss :: L)) : ∃ A c A' c', ns.length ≤ c ∧ ss.length ≤ c' ∧ Sat w0 w (Blk g #[.int .i64 ver, .slice A ns.length c, .slice A' ss.length c'] tM :: Row (Kd.int .i64) tI (.slice A ns.length c) ns :: Shs (.slice A' ss.length c') ss :: L) := by
  obtain ⟨⟨v1, v2⟩, h1⟩ := h.some_
  have h2 := h1.opened
  obtain ⟨A, c, e, hc, _⟩ := (h2.nth 1 rfl).rowSlice
  obtain ⟨A', c', e', hc', _⟩ := Shs.read (h2.nth 2 rfl)
  simp only at e e' h2
  subst e e'
  exact ⟨A, c, A', c', hc, hc', h2⟩
theorem Mk.mk {v1 v2 : Value} (h : Sat w0 w (Blk g #[.int .i64 ver, v1, v2] tM :: Row (Kd.int .i64) tI v1 ns :: Shs v2 ss :: L)) : Sat w0 w (Mk g ver ns ss :: L) := Sat.any (v1, v2) (Sat.closed h)
end
/-- A shard's row, and one of it set. -/
theorem row_set {w0 w : World} {L : List Asn} {gb n c i : Nat} {l : List Ow} (o : Ow) (hi : i < l.length) (h : Sat w0 w (Row kO tO (.slice (some ⟨gb, 0, none⟩) n c) l :: L)) :
    Sat w0 (((w.setCell ⟨gb, i * 3, none⟩ (.int .i64 o.f0)).setCell ⟨gb, i * 3 + 1, none⟩ (.int .i64 o.f1)).setCell ⟨gb, i * 3 + 2, none⟩ (.int .i64 o.f2)) (Row kO tO (.slice (some ⟨gb, 0, none⟩) n c) (l.set i o) :: L) := by
  have hn := h.rowLen.1
  subst hn
  obtain ⟨g', c', cur, e, hnc, hcm, hsz, htk, h1⟩ := row_blk h (by omega)
  injection e with e1 e2 e3
  injection e1 with e1
  injection e1 with e1
  subst e1 e3
  have h2 := ((h1.setBlk (i * 3) (.int .i64 o.f0)).setBlk (i * 3 + 1) (.int .i64 o.f1)).setBlk (i * 3 + 2) (.int .i64 o.f2)
  have h3 := blk_row (c := c) (l := l.set i o) h2 (by rw [List.length_set]; exact hnc) hcm (by simpa using hsz) (by
    rw [List.length_set]
    apply List.ext_getElem?
    intro j
    have hf : (flat (l.set i o)) = flat (l.take i) ++ cellsO o ++ flat (l.drop (i + 1)) := by
      rw [List.set_eq_take_append_cons_drop, if_pos hi, flat_app, flat_cons, List.append_assoc]
    have hl1 : (flat (l.take i)).length = i * 3 := by rw [flat_length, List.length_take, Nat.min_eq_left (by omega)]
    have hcl : (cellsO o).length = 3 := rfl
    have hold : ∀ j, j < l.length * 3 → cur.toList[j]? = (flat l)[j]? := fun j hj => by rw [← htk, List.getElem?_take, if_pos hj]
    have hlt : ∀ j, j < l.length * 3 → j < cur.size := fun j hj => by omega
    rw [hf, List.getElem?_take]
    simp only [Array.toList_setIfInBounds]
    rw [List.getElem?_set, List.getElem?_set, List.getElem?_set]
    simp only [List.length_set, Array.length_toList]
    by_cases hj : j < l.length * 3
    · rw [if_pos hj]
      rcases Nat.lt_or_ge j (i * 3) with h1 | h1
      · rw [if_neg (by omega), if_neg (by omega), if_neg (by omega), hold j hj, List.append_assoc, List.getElem?_append_left (by omega), ← flat_take l i (by omega), List.getElem?_take, if_pos h1]
      · rcases Nat.lt_or_ge j (i * 3 + 3) with h2 | h2
        · rw [List.append_assoc, List.getElem?_append_right (by omega), hl1, List.getElem?_append_left (by omega)]
          have : j = i * 3 ∨ j = i * 3 + 1 ∨ j = i * 3 + 2 := by omega
          rcases this with rfl | rfl | rfl
          · rw [if_neg (by omega), if_neg (by omega), if_pos rfl, if_pos (hlt _ hj), Nat.sub_self]; rfl
          · rw [if_neg (by omega), if_pos rfl, if_pos (hlt _ hj), Nat.add_sub_cancel_left]; rfl
          · rw [if_pos rfl, if_pos (hlt _ hj), Nat.add_sub_cancel_left]; rfl
        · rw [if_neg (by omega), if_neg (by omega), if_neg (by omega), hold j hj, List.getElem?_append_right (by rw [List.length_append]; omega), List.length_append, hl1, hcl, ← flat_drop l (i + 1) (by omega), List.getElem?_drop]
          congr 1
          omega
    · rw [if_neg hj, List.getElem?_eq_none (by simp only [List.length_append, flat_length, List.length_take, List.length_drop, hcl]; omega)])
  rw [List.length_set] at h3
  exact h3
end Go.Proofs.Ytmdebnfjhnhcjaa.PmS
namespace Go.Proofs.Ytmdebnfjhnhcjaa.PmS
open Go.RowKit Go.Proofs.YtmdebnfjhnhcjaaW.PrintWords Go.Proofs.YtmdebnfjhnhcjaaW.PrintLast Go.Proofs.YtmdebnfjhnhcjaaW.PrintMore Go.Proofs.Ytmdebnfjhnhcjaa.QB Go.Proofs.Ytmdebnfjhnhcjaa.Sl Go.Proofs.Ytmdebnfjhnhcjaa.PlI Go.Proofs.Ytmdebnfjhnhcjaa.PlM Go.Proofs.Ytmdebnfjhnhcjaa.PlS Go.Proofs.Ytmdebnfjhnhcjaa.RlP Go.Proofs.Ytmdebnfjhnhcjaa.PmB Go.Proofs.Ytmdebnfjhnhcjaa.PmI
set_option linter.unusedVariables false
set_option linter.unusedSimpArgs false
theorem ShsH.at {w0 w : World} {L : List Asn} {ss : List (List Ow)} {gb n cap i : Nat} (h : Sat w0 w (ShsH (.slice (some ⟨gb, 0, none⟩) n cap) ss i :: L)) (hi : i < ss.length) : ∃ u, w.cell? ⟨gb, i, none⟩ = some u ∧ w.frozen? ⟨gb, i, none⟩ = false := by
  obtain ⟨hs, h2⟩ := h.some_
  have h3 := h2.opened
  have hl := h3.fact
  obtain ⟨gb', cap', e, hc, hf, _⟩ := row_scalar h3.tail i (by omega)
  injection e with e1 e2 e3
  injection e1 with e1
  injection e1 with e1
  subst e1
  exact ⟨_, hc, hf⟩
/-- The cells of a row's element, and that they may be written. -/
theorem row_at {w0 w : World} {L : List Asn} {l : List Ow} {A : Option Addr} {n c i : Nat} (hi : i < l.length) (h : Sat w0 w (Row kO tO (.slice A n c) l :: L)) : ∃ ga, A = some ⟨ga, 0, none⟩ ∧
    (∃ u, w.cell? ⟨ga, i * 3, none⟩ = some u) ∧ (∃ u, w.cell? ⟨ga, i * 3 + 1, none⟩ = some u) ∧ (∃ u, w.cell? ⟨ga, i * 3 + 2, none⟩ = some u) ∧ ∀ j, w.frozen? ⟨ga, j, none⟩ = false := by
  obtain ⟨g, c', cur, e, hnc, hcm, hsz, htk, h1⟩ := row_blk h (by omega)
  injection e with e1 e2 e3
  subst e1
  have hb := h1.blk
  have hc : ∀ j, j < cur.size → ∃ u, w.cell? ⟨g, j, none⟩ = some u := fun j hj => ⟨cur[j], by simp [World.cell?, hb, hj]⟩
  exact ⟨g, rfl, hc _ (by omega), hc _ (by omega), hc _ (by omega), fun j => by simp [World.frozen?, hb]⟩
set_option maxHeartbeats 8000000 in
set_option maxRecDepth 100000 in
theorem set_calls (w0 w : World) (L : List Asn) (g : Nat) (ver : Int) (ns : List Int) (ss : List (List Ow)) (i : Nat) (o : Ow) (hi : i < ss.length) (hn : ss.length ≤ 1000000) (hl : (ss[i]).length ≤ 1000000) (hr : RisO ss[i]) (h : Sat w0 w (Mk g ver ns ss :: L)) :
    Calls Try.prog 36 #[.pointer (some ⟨g, 0, none⟩), .int .i64 i, .agg #[.int .i64 o.f0, .int .i64 o.f1, .int .i64 o.f2]] w fun e w' => e = .returned (.tuple #[]) ∧ Sat w0 w' (Mk g ver ns (ss.set i (setL ss[i] o)) :: L) := by
  have h1 := (h.newBlk #[.int .i64 o.f0, .int .i64 o.f1, .int .i64 o.f2] tO).nth 1 rfl
  obtain ⟨A1, c1, A2, c2, hc1, hc2, hp⟩ := Mk.open h1
  obtain ⟨gb, cap, A3, c3, hA2, b3, hc3, hf3, hgb, hq⟩ := Shs.lend (hp.nth 2 rfl) i hi
  cases hA2
  have HQ := Aside0.mk (show Sat w0 (w.alloc (.cells #[.int .i64 o.f0, .int .i64 o.f1, .int .i64 o.f2] tO)) (Row kO tO (.slice A3 (ss[i]).length c3) ss[i] :: ShsH (.slice (some ⟨gb, 0, none⟩) ss.length c2) ss i :: Blk g #[.int .i64 ver, .slice A1 ns.length c1, .slice (some ⟨gb, 0, none⟩) ss.length c2] tM :: Row (Kd.int .i64) tI (.slice A1 ns.length c1) ns :: Blk w.heap.size #[.int .i64 o.f0, .int .i64 o.f1, .int .i64 o.f2] tO :: L) from hq)
  have HPT := Aside0.mk (fun (w6 : World) (A6 : Option Addr) (c6 : Nat) (l6 : List Ow) (h : Sat w0 w6 (Row kO tO (.slice A6 l6.length c6) l6 :: ShsH (.slice (some ⟨gb, 0, none⟩) ss.length c2) ss i :: Blk g #[.int .i64 ver, .slice A1 ns.length c1, .slice (some ⟨gb, 0, none⟩) ss.length c2] tM :: Row (Kd.int .i64) tI (.slice A1 ns.length c1) ns :: Blk w.heap.size #[.int .i64 o.f0, .int .i64 o.f1, .int .i64 o.f2] tO :: L)) => show Sat w0 (w6.setCell ⟨gb, i, none⟩ (.slice A6 l6.length c6)) (Mk g ver ns (ss.set i l6) :: L) from by
    have h2 := ShsH.put h hi
    exact Mk.mk (((h2.nth 3 rfl).tail.nth 2 rfl).nth 2 rfl))
  have HIN := Aside0.mk (fun (w6 : World) (gv ix : Nat) (hix : ix ≤ (ss[i]).length) (h : Sat w0 w6 (Row kO tO (.slice A3 (ss[i]).length c3) ss[i] :: Row kO tO (.slice (some ⟨gv, 0, none⟩) 1 1) [o] :: ShsH (.slice (some ⟨gb, 0, none⟩) ss.length c2) ss i :: Blk g #[.int .i64 ver, .slice A1 ns.length c1, .slice (some ⟨gb, 0, none⟩) ss.length c2] tM :: Row (Kd.int .i64) tI (.slice A1 ns.length c1) ns :: Blk w.heap.size #[.int .i64 o.f0, .int .i64 o.f1, .int .i64 o.f2] tO :: L)) => insert_calls w0 w6 _ _ ss[i] o gv ix hix hl h)
  have HSA := Aside0.mk (fun (w6 : World) (h : Sat w0 w6 (ShsH (.slice (some ⟨gb, 0, none⟩) ss.length c2) ss i :: Row kO tO (.slice A3 (ss[i]).length c3) ss[i] :: Blk g #[.int .i64 ver, .slice A1 ns.length c1, .slice (some ⟨gb, 0, none⟩) ss.length c2] tM :: Row (Kd.int .i64) tI (.slice A1 ns.length c1) ns :: Blk w.heap.size #[.int .i64 o.f0, .int .i64 o.f1, .int .i64 o.f2] tO :: L)) => ShsH.at h hi)
  have HBS := Aside0.mk (fun (w6 : World) (hC : Kd.C kO w6 A3 (ss[i]).length ss[i]) => bs_calls w6 A3 c3 ss[i] o.f0 (by omega) hC hr)
  have HRI := Aside0.mk hr
  obtain ⟨m1, hm1⟩ : ∃ m1, ns.length = m1 := ⟨_, rfl⟩
  obtain ⟨m2, hm2⟩ : ∃ m2, ss.length = m2 := ⟨_, rfl⟩
  obtain ⟨m3, hm3⟩ : ∃ m3, (ss[i]).length = m3 := ⟨_, rfl⟩
  have y1 : (0 : Int) ≤ (i : Int) := by omega
  have y2 : (i : Int) < (m2 : Int) := by omega
  have b2 := (hq.nth 2 rfl).cell 2 rfl
  have x0 := (hq.nth 4 rfl).cell 0 (v := .int .i64 o.f0) rfl
  have x1 := (hq.nth 4 rfl).cell 1 (v := .int .i64 o.f1) rfl
  have x2 := (hq.nth 4 rfl).cell 2 (v := .int .i64 o.f2) rfl
  have HM3 := Aside0.mk hm3
  have HCQ := Aside0.mk hq.rowC
  clear hp hq h1 h hf3 hr hc1 hc2 hc3
  rw [hm1] at HQ HPT HIN HSA
  rw [hm2] at HQ HPT HIN HSA b2
  rw [hm3] at HQ HIN HSA HBS HCQ b3 hl
  generalize ss[i] = li at HQ HPT HIN HSA HBS HRI HM3 HCQ ⊢
  have b2' : (w.alloc (.cells #[.int .i64 o.f0, .int .i64 o.f1, .int .i64 o.f2] tO)).cell? ⟨g, 2, none⟩ = some (.slice (some ⟨gb, 0, none⟩) m2 c2) := b2
  have hss := hi
  clear hm1 hm2 hm3 hi hn b2
  go_enter Try.func36, Try.ntmps36
  go_upto_region 3 with (first | (go_at_call 73; go_loud ((with_reducible refine (HBS.out _ HCQ.out).mono ?_); rintro e w2 ⟨ix, rfl, hbs, hb2⟩; have H2 := Aside0.mk (HQ.out.step hb2); have HIX := Aside0.mk hbs; clear hbs hb2)))
  have x0' := (H2.out.nth 4 rfl).cell 0 (v := .int .i64 o.f0) rfl
  have x1' := (H2.out.nth 4 rfl).cell 1 (v := .int .i64 o.f1) rfl
  have x2' := (H2.out.nth 4 rfl).cell 2 (v := .int .i64 o.f2) rfl
  have b2'' := (H2.out.nth 2 rfl).cell 2 (v := .slice (some ⟨gb, 0, none⟩) m2 c2) rfl
  have HIL := Aside0.mk (show ix ≤ m3 from by rw [← HM3.out]; exact HIX.out.1)
  clear x0 x1 x2 b2' b3 HQ HCQ HBS
  generalize (w.alloc (.cells #[.int .i64 o.f0, .int .i64 o.f1, .int .i64 o.f2] tO)) = wx
  cases hia : isAt li o.f0 ix with
  | false =>
    have HIA := Aside0.mk hia
    clear hia
    have HR := Aside0.mk (set_ins HRI.out HIX.out HIA.out)
    have HI2 := Aside0.mk (show Sat w0 (w2.alloc (.cells #[.int .i64 o.f0, .int .i64 o.f1, .int .i64 o.f2] tO)) (Row kO tO (.slice A3 m3 c3) li :: Row kO tO (.slice (some ⟨w2.heap.size, 0, none⟩) 1 1) [o] :: ShsH (.slice (some ⟨gb, 0, none⟩) m2 c2) ss i :: Blk g #[.int .i64 ver, .slice A1 m1 c1, .slice (some ⟨gb, 0, none⟩) m2 c2] tM :: Row (Kd.int .i64) tI (.slice A1 m1 c1) ns :: Blk w.heap.size #[.int .i64 o.f0, .int .i64 o.f1, .int .i64 o.f2] tO :: L) from
      (blk_row (c := 1) (l := [o]) (H2.out.newBlk #[.int .i64 o.f0, .int .i64 o.f1, .int .i64 o.f2] tO) (Nat.le_refl 1) (by unfold maxLen; omega) rfl rfl).nth 1 rfl)
    go_upto_region 6 with (first | (go_at_call 76; go_loud ((with_reducible refine (HIN.out _ w2.heap.size ix HIL.out HI2.out).mono ?_); rintro e w4 ⟨v4, rfl, h4⟩; rw [HR.out] at h4; obtain ⟨A4, c4, rfl, _, _⟩ := h4.rowSlice; have H4 := Aside0.mk h4; have b4 := (h4.nth 2 rfl).cell 2 (v := .slice (some ⟨gb, 0, none⟩) m2 c2) rfl; obtain ⟨u4, c4', f4⟩ := ShsH.at (h4.nth 1 rfl) hss; clear h4)))
    go_wp2
    go_end0
    exact ⟨rfl, HPT.out w4 A4 c4 _ H4.out⟩
  | true =>
    have HIA := Aside0.mk hia
    have hixl : ix < m3 := by
      unfold isAt at hia
      rw [Bool.and_eq_true] at hia
      have := of_decide_eq_true hia.1
      rwa [HM3.out] at this
    clear hia
    have HR := Aside0.mk (set_found HRI.out HIX.out HIA.out)
    obtain ⟨ga, rfl, ⟨u0, k0⟩, ⟨u1, k1⟩, ⟨u2, k2⟩, hfz⟩ := row_at (i := ix) (by rw [HM3.out]; exact hixl) H2.out
    have fz0 := hfz (ix * 3)
    have fz1 := hfz (ix * 3 + 1)
    have fz2 := hfz (ix * 3 + 2)
    have j1 : (0 : Int) ≤ (ix : Int) := by omega
    have j2 : (ix : Int) < (m3 : Int) := by omega
    have HSS := Aside0.mk (row_set o (by rw [HM3.out]; exact hixl) H2.out)
    clear hfz
    go_upto_region 6 with (fail)
    generalize (((w2.setCell ⟨ga, ix * 3, none⟩ (.int .i64 o.f0)).setCell ⟨ga, ix * 3 + 1, none⟩ (.int .i64 o.f1)).setCell ⟨ga, ix * 3 + 2, none⟩ (.int .i64 o.f2)) = w4 at HSS ⊢
    have H4 := Aside0.mk (show Sat w0 w4 (Row kO tO (.slice (some ⟨ga, 0, none⟩) (setL li o).length c3) (setL li o) :: ShsH (.slice (some ⟨gb, 0, none⟩) m2 c2) ss i :: Blk g #[.int .i64 ver, .slice A1 m1 c1, .slice (some ⟨gb, 0, none⟩) m2 c2] tM :: Row (Kd.int .i64) tI (.slice A1 m1 c1) ns :: Blk w.heap.size #[.int .i64 o.f0, .int .i64 o.f1, .int .i64 o.f2] tO :: L) from by
      have h4 := HSS.out
      rw [HR.out] at h4
      have e : (setL li o).length = m3 := by rw [← HR.out, List.length_set]; exact HM3.out
      rw [e]
      exact h4)
    have HLS := Aside0.mk (show (setL li o).length = m3 from by rw [← HR.out, List.length_set]; exact HM3.out)
    have b4 := (H4.out.nth 2 rfl).cell 2 (v := .slice (some ⟨gb, 0, none⟩) m2 c2) rfl
    obtain ⟨u4, c4', f4⟩ := ShsH.at (H4.out.nth 1 rfl) hss
    clear k0 k1 k2 fz0 fz1 fz2 j1 j2 HSS
    go_wp2
    go_end0
    have := HPT.out w4 (some ⟨ga, 0, none⟩) c3 _ H4.out
    rw [HLS.out] at this
    exact ⟨rfl, this⟩
end Go.Proofs.Ytmdebnfjhnhcjaa.PmS
