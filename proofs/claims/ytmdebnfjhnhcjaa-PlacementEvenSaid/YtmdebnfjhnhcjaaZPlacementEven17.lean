/- Loads of a placement that is made new: they differ by one at most.
   The plain law of PlacementEven: a placement that is made new has loads that differ by one at most. -/
import Derived.Test.YtmdebnfjhnhcjaaZPlacementEven14
import Derived.Test.YtmdebnfjhnhcjaaZPlacementEven15
import Derived.Test.YtmdebnfjhnhcjaaZPlacementEven12
import Derived.Test.YtmdebnfjhnhcjaaZPlacementEven16
namespace Go.Proofs.Ytmdebnfjhnhcjaa.RlP
open Go.RowKit Go.Proofs.YtmdebnfjhnhcjaaW.PrintWords Go.Proofs.YtmdebnfjhnhcjaaW.PrintLast Go.Proofs.YtmdebnfjhnhcjaaW.PrintMore Go.Proofs.Ytmdebnfjhnhcjaa.QB Go.Proofs.Ytmdebnfjhnhcjaa.PlI Go.Proofs.Ytmdebnfjhnhcjaa.PlS
set_option linter.unusedVariables false
set_option linter.unusedSimpArgs false
theorem findO_cons (x : Ow) (r : List Ow) (n : Int) : findO (x :: r) n = if x.f0 = n then some x else findO r n := by
  show (match (x.f0 == n) with | true => some x | false => findO r n) = _
  by_cases h : x.f0 = n
  · rw [if_pos h, beq_iff_eq.2 h]
  · rw [if_neg h, beq_false_of_ne h]
theorem findO_insL_ne {o : Ow} {n : Int} (h : o.f0 ≠ n) : ∀ l : List Ow, findO (insL o l) n = findO l n
  | [] => by
    rw [insL, findO_cons, if_neg h]
  | x :: r => by
    rw [insL]
    split
    · rw [findO_cons, findO_cons, findO_insL_ne h r]
    · rw [findO_cons, if_neg h]
theorem findO_unsetL_ne {m n : Int} (h : m ≠ n) : ∀ l : List Ow, findO (unsetL l m) n = findO l n
  | [] => rfl
  | x :: r => by
    have ih := findO_unsetL_ne h r
    unfold unsetL at ih ⊢
    by_cases hx : x.f0 = m
    · rw [List.filter_cons_of_neg (by simp [hx]), ih, findO_cons, if_neg (fun e => h (by rw [← hx, e]))]
    · rw [List.filter_cons_of_pos (by simp [hx]), findO_cons, findO_cons, ih]
theorem findO_setL_ne {l : List Ow} {o : Ow} {n : Int} (h : o.f0 ≠ n) : findO (setL l o) n = findO l n := by
  unfold setL
  rw [findO_insL_ne h, findO_unsetL_ne h]
/-- The node with the least load. -/
theorem least_spec (ss : List (List Ow)) (i : Int) : ∀ (ns : List Int) (b : Int), (∀ x ∈ ns, 0 ≤ x) →
    (b < 0 → (leastG ss i ns b = b ∧ ∀ x ∈ ns, ownsP ss i x = true) ∨ (leastG ss i ns b ∈ ns ∧ ownsP ss i (leastG ss i ns b) = false ∧ ∀ x ∈ ns, ownsP ss i x = false → loadP ss (leastG ss i ns b) ≤ loadP ss x)) ∧
    (0 ≤ b → (leastG ss i ns b = b ∨ (leastG ss i ns b ∈ ns ∧ ownsP ss i (leastG ss i ns b) = false)) ∧ loadP ss (leastG ss i ns b) ≤ loadP ss b ∧ ∀ x ∈ ns, ownsP ss i x = false → loadP ss (leastG ss i ns b) ≤ loadP ss x)
  | [], b, _ => ⟨fun _ => .inl ⟨rfl, fun x hx => by cases hx⟩, fun _ => ⟨.inl rfl, Nat.le_refl _, fun x hx => by cases hx⟩⟩
  | y :: r, b, h => by
    have ih := fun b => least_spec ss i r b fun x hx => h x (List.mem_cons_of_mem _ hx)
    have hy := h y (List.mem_cons_self ..)
    rw [leastG]
    cases ho : ownsP ss i y with
    | true =>
      rw [if_pos rfl]
      refine ⟨fun hb => ?_, fun hb => ?_⟩
      · rcases (ih b).1 hb with ⟨h1, h2⟩ | ⟨h1, h2, h3⟩
        · exact .inl ⟨h1, fun x hx => (List.mem_cons.1 hx).elim (fun e => by rw [e]; exact ho) (h2 x)⟩
        · exact .inr ⟨List.mem_cons_of_mem _ h1, h2, fun x hx hxo => by
            rcases List.mem_cons.1 hx with rfl | hx
            · rw [ho] at hxo; cases hxo
            · exact h3 x hx hxo⟩
      · obtain ⟨h1, h2, h3⟩ := (ih b).2 hb
        exact ⟨h1.imp id fun h => ⟨List.mem_cons_of_mem _ h.1, h.2⟩, h2, fun x hx hxo => by
            rcases List.mem_cons.1 hx with rfl | hx
            · rw [ho] at hxo; cases hxo
            · exact h3 x hx hxo⟩
    | false =>
      rw [if_neg Bool.false_ne_true]
      refine ⟨fun hb => ?_, fun hb => ?_⟩
      · rw [if_pos hb]
        obtain ⟨h1, h2, h3⟩ := (ih y).2 hy
        refine .inr ⟨?_, ?_, fun x hx hxo => ?_⟩
        · rcases h1 with h1 | h1
          · rw [h1]; exact List.mem_cons_self ..
          · exact List.mem_cons_of_mem _ h1.1
        · rcases h1 with h1 | h1
          · rw [h1]; exact ho
          · exact h1.2
        · rcases List.mem_cons.1 hx with rfl | hx
          · exact h2
          · exact h3 x hx hxo
      · rw [if_neg (by omega)]
        by_cases hl : loadP ss y < loadP ss b
        · rw [if_pos hl]
          obtain ⟨h1, h2, h3⟩ := (ih y).2 hy
          refine ⟨.inr ⟨?_, ?_⟩, by omega, fun x hx hxo => ?_⟩
          · rcases h1 with h1 | h1
            · rw [h1]; exact List.mem_cons_self ..
            · exact List.mem_cons_of_mem _ h1.1
          · rcases h1 with h1 | h1
            · rw [h1]; exact ho
            · exact h1.2
          · rcases List.mem_cons.1 hx with rfl | hx
            · exact h2
            · exact h3 x hx hxo
        · rw [if_neg hl]
          obtain ⟨h1, h2, h3⟩ := (ih b).2 hb
          refine ⟨h1.imp id fun h => ⟨List.mem_cons_of_mem _ h.1, h.2⟩, h2, fun x hx hxo => ?_⟩
          rcases List.mem_cons.1 hx with rfl | hx
          · omega
          · exact h3 x hx hxo
theorem nodup_le : ∀ {l m : List Int}, l.Nodup → (∀ x ∈ l, x ∈ m) → l.length ≤ m.length
  | [], m, _, _ => Nat.zero_le _
  | a :: l, m, h1, h2 => by
    have h1' := List.nodup_cons.1 h1
    have ha := h2 a (List.mem_cons_self ..)
    have := nodup_le (l := l) (m := m.erase a) h1'.2 fun x hx => (List.mem_erase_of_ne (fun e => h1'.1 (by rw [← e]; exact hx))).2 (h2 x (List.mem_cons_of_mem _ hx))
    have hp := (List.perm_cons_erase ha).length_eq
    rw [List.length_cons] at hp ⊢
    omega
theorem find_mem {l : List Ow} {n : Int} {o : Ow} (h : findO l n = some o) : n ∈ l.map (·.f0) := by
  unfold findO at h
  have h1 := List.mem_of_find?_eq_some h
  have h2 : (o.f0 == n) = true := by simpa using List.find?_some h
  exact List.mem_map.2 ⟨o, h1, by simpa using h2⟩
/-- Someone is free. -/
theorem some_free {ss : List (List Ow)} {i : Nat} {ns : List Int} (hi : i < ss.length) (hnd : ns.Nodup) (hlt : (ss[i]).length < ns.length) : ∃ x ∈ ns, ownsP ss i x = false := by
  refine Decidable.byContradiction fun hno => ?_
  have hall : ∀ x ∈ ns, x ∈ (ss[i]).map (·.f0) := fun x hx => by
    have hx1 : ownsP ss i x = true := by
      cases h : ownsP ss i x with
      | true => rfl
      | false => exact absurd ⟨x, hx, h⟩ hno
    rw [owns_at hi] at hx1
    cases hf : findO ss[i] x with
    | none => rw [hf] at hx1; cases hx1
    | some o => exact find_mem hf
  have := nodup_le hnd hall
  rw [List.length_map] at this
  omega
theorem least_pick {ss : List (List Ow)} {i : Nat} {ns : List Int} (hi : i < ss.length) (hnd : ns.Nodup) (h0 : ∀ x ∈ ns, 0 ≤ x) (hlt : (ss[i]).length < ns.length) :
    leastG ss i ns (-1) ∈ ns ∧ ownsP ss i (leastG ss i ns (-1)) = false ∧ ∀ x ∈ ns, ownsP ss i x = false → loadP ss (leastG ss i ns (-1)) ≤ loadP ss x := by
  obtain ⟨y, hy, hyo⟩ := some_free hi hnd hlt
  rcases (least_spec ss i ns (-1) h0).1 (by decide) with ⟨_, h2⟩ | h
  · rw [h2 y hy] at hyo; cases hyo
  · exact h
theorem addOne_owns {ns : List Int} {ss : List (List Ow)} {i : Nat} (hi : i < ss.length) (x : Int) : ownsP (addOne ns ss i) i x = (decide (x = leastG ss i ns (-1)) || ownsP ss i x) := by
  have hg : ss.getD i [] = ss[i] := by rw [List.getD_eq_getElem?_getD, List.getElem?_eq_getElem hi]; rfl
  rw [owns_at (by rw [addOne_length]; exact hi), owns_at hi]
  have e : (addOne ns ss i)[i]'(by rw [addOne_length]; exact hi) = setL ss[i] ⟨leastG ss i ns (-1), 2, -1⟩ := by
    unfold addOne
    simp only [List.getElem_set_self, hg]
  rw [e]
  by_cases hx : x = leastG ss i ns (-1)
  · subst hx
    rw [findO_setL (ss[i]) ⟨leastG ss i ns (-1), 2, -1⟩]
    simp [livesO]
  · rw [findO_setL_ne (o := ⟨leastG ss i ns (-1), 2, -1⟩) (fun e => hx e.symm), decide_eq_false hx, Bool.false_or]
theorem addOne_load {ns : List Int} {ss : List (List Ow)} {i : Nat} (hi : i < ss.length) (hf : ownsP ss i (leastG ss i ns (-1)) = false) (x : Int) : loadP (addOne ns ss i) x = loadP ss x + if x = leastG ss i ns (-1) then 1 else 0 := by
  have ho := addOne_owns (ns := ns) hi x
  have hg : ss.getD i [] = ss[i] := by rw [List.getD_eq_getElem?_getD, List.getElem?_eq_getElem hi]; rfl
  have hc := countP_set (fun l => livesO (findO l x)) (setL ss[i] ⟨leastG ss i ns (-1), 2, -1⟩) hi
  have e : (addOne ns ss i)[i]'(by rw [addOne_length]; exact hi) = setL ss[i] ⟨leastG ss i ns (-1), 2, -1⟩ := by
    unfold addOne
    simp only [List.getElem_set_self, hg]
  rw [owns_at (by rw [addOne_length]; exact hi), e, owns_at hi] at ho
  rw [owns_at hi] at hf
  have hs : loadP (addOne ns ss i) x = (ss.set i (setL ss[i] ⟨leastG ss i ns (-1), 2, -1⟩)).countP (fun l => livesO (findO l x)) := by
    unfold addOne loadP
    rw [hg]
  rw [hs]
  simp only [ho] at hc
  show _ = List.countP (fun l => livesO (findO l x)) ss + _
  by_cases hx : x = leastG ss i ns (-1)
  · rw [if_pos hx]
    rw [← hx] at hf
    rw [hf, if_neg Bool.false_ne_true, if_pos (by rw [decide_eq_true hx]; rfl)] at hc
    omega
  · rw [if_neg hx]
    rw [decide_eq_false hx, Bool.false_or] at hc
    omega
/-- Loads are even, and in a shard those who have it are not behind. -/
def Bal (ns : List Int) (ss : List (List Ow)) (i : Nat) : Prop := ∃ a, (∀ x ∈ ns, loadP ss x = a ∨ loadP ss x = a + 1) ∧ ((∀ x ∈ ns, ownsP ss i x = true → loadP ss x = a + 1) ∨ ∀ x ∈ ns, ownsP ss i x = false → loadP ss x = a)
theorem addOne_bal {ns : List Int} {ss : List (List Ow)} {i : Nat} (hi : i < ss.length) (hnd : ns.Nodup) (h0 : ∀ x ∈ ns, 0 ≤ x) (hlt : (ss[i]).length < ns.length) (h : Bal ns ss i) :
    Bal ns (addOne ns ss i) i ∧ ∃ x ∈ ns, 1 ≤ loadP (addOne ns ss i) x := by
  obtain ⟨hm, hmo, hmin⟩ := least_pick hi hnd h0 hlt
  have hld := addOne_load (ns := ns) hi hmo
  have how := addOne_owns (ns := ns) hi
  generalize leastG ss i ns (-1) = m at hm hmo hmin hld how
  refine ⟨?_, m, hm, by rw [hld, if_pos rfl]; omega⟩
  obtain ⟨a, h1, h2⟩ := h
  by_cases hma : loadP ss m = a
  · refine ⟨a, fun x hx => ?_, ?_⟩
    · rw [hld]
      by_cases hxm : x = m
      · subst hxm; rw [if_pos rfl]; exact .inr (by omega)
      · rw [if_neg hxm]; exact h1 x hx
    · rcases h2 with h2 | h2
      · refine .inl fun x hx hxo => ?_
        rw [how] at hxo
        rw [hld]
        by_cases hxm : x = m
        · subst hxm; rw [if_pos rfl]; omega
        · rw [decide_eq_false hxm, Bool.false_or] at hxo
          rw [if_neg hxm, h2 x hx hxo, Nat.add_zero]
      · refine .inr fun x hx hxo => ?_
        rw [how] at hxo
        rw [hld]
        by_cases hxm : x = m
        · rw [decide_eq_true hxm] at hxo; cases hxo
        · rw [decide_eq_false hxm, Bool.false_or] at hxo
          rw [if_neg hxm, h2 x hx hxo, Nat.add_zero]
  · have hma1 : loadP ss m = a + 1 := (h1 m hm).resolve_left hma
    have hp : ∀ x ∈ ns, loadP ss x = a + 1 := fun x hx => by
      rcases h2 with h2 | h2
      · cases ho : ownsP ss i x with
        | true => exact h2 x hx ho
        | false =>
          have := hmin x hx ho
          rcases h1 x hx with h | h <;> omega
      · exact absurd (h2 m hm hmo) hma
    refine ⟨a + 1, fun x hx => ?_, .inr fun x hx hxo => ?_⟩
    · rw [hld, hp x hx]
      by_cases hxm : x = m
      · rw [if_pos hxm]; exact .inr rfl
      · rw [if_neg hxm]; exact .inl rfl
    · rw [how] at hxo
      rw [hld, hp x hx]
      by_cases hxm : x = m
      · rw [decide_eq_true hxm] at hxo; cases hxo
      · rw [if_neg hxm]
theorem addOne_row {ns : List Int} {ss : List (List Ow)} {i : Nat} (hi : i < ss.length) : ((addOne ns ss i)[i]'(by rw [addOne_length]; exact hi)).length ≤ (ss[i]).length + 1 := by
  have hg : ss.getD i [] = ss[i] := by rw [List.getD_eq_getElem?_getD, List.getElem?_eq_getElem hi]; rfl
  unfold addOne
  simp only [List.getElem_set_self, hg]
  exact setL_le _ _
theorem three_bal {ns : List Int} {ss : List (List Ow)} {i : Nat} (hi : i < ss.length) (hnd : ns.Nodup) (h0 : ∀ x ∈ ns, 0 ≤ x) (h3 : 3 ≤ ns.length) (he : ss[i] = []) (h : Bal ns ss i) :
    Bal ns (three ns ss i) i ∧ ∃ x ∈ ns, 1 ≤ loadP (three ns ss i) x := by
  have l0 : (ss[i]).length = 0 := by rw [he]; rfl
  have b1 := addOne_bal hi hnd h0 (by omega) h
  have hi1 : i < (addOne ns ss i).length := by rw [addOne_length]; exact hi
  have l1 := addOne_row (ns := ns) hi
  have b2 := addOne_bal hi1 hnd h0 (by omega) b1.1
  have hi2 : i < (addOne ns (addOne ns ss i) i).length := by rw [addOne_length]; exact hi1
  have l2 := addOne_row (ns := ns) hi1
  exact addOne_bal hi2 hnd h0 (by omega) b2.1
/-- Even loads. -/
def Even (ns : List Int) (ss : List (List Ow)) : Prop := ∃ a, ∀ x ∈ ns, loadP ss x = a ∨ loadP ss x = a + 1
theorem initS_even {ns : List Int} (hnd : ns.Nodup) (h0 : ∀ x ∈ ns, 0 ≤ x) (h3 : 3 ≤ ns.length) : ∀ (d : Nat) (ss : List (List Ow)), Even ns ss → (0 < ss.length → ∃ x ∈ ns, 1 ≤ loadP ss x) →
    Even ns (initS ns d ss) ∧ (0 < d + ss.length → ∃ x ∈ ns, 1 ≤ loadP (initS ns d ss) x) ∧ (initS ns d ss).length = d + ss.length
  | 0, ss, h, h1 => ⟨h, fun hp => h1 (by omega), by rw [initS]; omega⟩
  | d + 1, ss, ⟨a, h⟩, h1 => by
    rw [initS]
    have hi : ss.length < (ss ++ [[]]).length := by rw [List.length_append, List.length_singleton]; omega
    have hl : ∀ x, loadP (ss ++ [[]]) x = loadP ss x := fun x => by
      unfold loadP
      rw [List.countP_append]
      rfl
    have he : (ss ++ [[]])[ss.length] = ([] : List Ow) := by simp
    have hb : Bal ns (ss ++ [[]]) ss.length := ⟨a, fun x hx => by rw [hl]; exact h x hx, .inl fun x hx hxo => by
      rw [owns_at hi, he] at hxo
      cases hxo⟩
    obtain ⟨⟨b, hb1, _⟩, h4⟩ := three_bal hi hnd h0 h3 he hb
    have hlen : (three ns (ss ++ [[]]) ss.length).length = ss.length + 1 := by
      unfold three
      rw [addOne_length, addOne_length, addOne_length, List.length_append, List.length_singleton]
    obtain ⟨h5, h6, h7⟩ := initS_even hnd h0 h3 d _ ⟨b, hb1⟩ (fun _ => h4)
    exact ⟨h5, fun _ => h6 (by omega), by rw [h7, hlen]; omega⟩
theorem loadP_le (ss : List (List Ow)) (x : Int) : loadP ss x ≤ ss.length := List.countP_le_length
end Go.Proofs.Ytmdebnfjhnhcjaa.RlP
namespace Go.Proofs.Ytmdebnfjhnhcjaa.PmQ
open Go.RowKit Go.Proofs.Ytmdebnfjhnhcjaa.QB Go.Proofs.YtmdebnfjhnhcjaaW.PrintWords Go.Proofs.YtmdebnfjhnhcjaaW.PrintLast Go.Proofs.YtmdebnfjhnhcjaaW.PrintMore Go.Proofs.Ytmdebnfjhnhcjaa.RlP Go.Proofs.Ytmdebnfjhnhcjaa.PlI Go.Proofs.Ytmdebnfjhnhcjaa.PlS
set_option linter.unusedVariables false
/-- What Init tells where it tells OK. -/
theorem initF_ok {l : List Int} {sh : Int} (h : (initF l sh).2.2.2 = 0) : ∃ N : Nat, sh = (N : Int) ∧ 1 ≤ N ∧ N ≤ 8 ∧ 3 ≤ l.length ∧ l.Nodup ∧ (∀ x ∈ l, nodeB x = true) ∧ initF l sh = (1, sortI l, initS (sortI l) N [], 0) := by
  unfold initF at h ⊢
  by_cases h3 : l.length < 3
  · rw [if_pos h3] at h; cases h
  · rw [if_neg h3, initN_eq] at h
    rw [if_neg h3, initN_eq]
    by_cases hg : (∀ x ∈ l, nodeB x = true) ∧ l.Nodup
    · rw [if_pos hg] at h
      rw [if_pos hg]
      simp only at h ⊢
      by_cases hs : sh < 1 ∨ 8 < sh
      · rw [if_pos hs] at h; cases h
      · rw [if_neg hs]
        exact ⟨sh.toNat, by omega, by omega, by omega, by omega, hg.2, hg.1, rfl⟩
    · rw [if_neg hg] at h
      cases h
theorem even_l0 (v : Int) (ns : List Int) (ss : List (List Ow)) (hs : Small ss) (h8 : ss.length ≤ 8) (hn : ns.length ≤ 1000) (a : Nat) (ha : ∀ x ∈ ns, loadP ss x = a ∨ loadP ss x = a + 1) (hex : ∃ x ∈ ns, 1 ≤ loadP ss x) (M : Nat) (hM : 200000000 < M) :
    ∀ (d k i : Nat) (lo hi : Int), i + d = ns.length → d + M < k → (a : Int) ≤ lo → lo ≤ 8 → hi ≤ (a : Int) + 1 → 0 ≤ hi → (∀ j (hj : j < ns.length), j < i → (loadP ss ns[j] : Int) ≤ hi) → thermographlaw14_PlacementEven.l0 k lo hi i v ns ss = some true
  | 0, k + 1, i, lo, hi, hd, hk, h1, h2, h3, h4, h5 => by
    rw [thermographlaw14_PlacementEven.l0, if_neg (by omega)]
    have e : wrap64 (hi - lo) = hi - lo := by unfold wrap64; omega
    rw [e, if_pos (by omega)]
    obtain ⟨x, hx, hx1⟩ := hex
    obtain ⟨j, hj, rfl⟩ := List.getElem_of_mem hx
    have := h5 j hj (by omega)
    rw [decide_eq_true (by omega)]
  | d + 1, k + 1, i, lo, hi, hd, hk, h1, h2, h3, h4, h5 => by
    have hlt : i < ns.length := by omega
    rw [thermographlaw14_PlacementEven.l0, if_pos (by omega), if_pos (by omega), rd_get hlt, pload_f v ns _ hs (by omega), Option.bind_some, Option.bind_some, w1 (by omega)]
    have hl := ha _ (List.getElem_mem hlt)
    have hle := loadP_le ss ns[i]
    generalize hL : loadP ss ns[i] = L at hl hle
    refine even_l0 v ns ss hs h8 hn a ha hex M hM d k (i + 1) _ _ (by omega) (by omega) ?_ ?_ ?_ ?_ fun j hj hji => ?_
    · unfold mn; split <;> omega
    · unfold mn; split <;> omega
    · unfold mx; split <;> omega
    · unfold mx; split <;> omega
    · by_cases e : j = i
      · subst e
        rw [hL]
        unfold mx; split <;> omega
      · have := h5 j hj (by omega)
        unfold mx; split <;> omega
theorem initF_small {l : List Int} {N : Nat} (hN : N ≤ 8) {ns : List Int} : ∀ (d : Nat) (ss : List (List Ow)), (∀ x ∈ ss, x.length ≤ 3 * ss.length) → ∀ x ∈ initS ns d ss, x.length ≤ 3 * (ss.length + d)
  | 0, ss, h => fun x hx => by have := h x hx; omega
  | d + 1, ss, h => fun x hx => by
    rw [initS] at hx
    have hl : (three ns (ss ++ [[]]) ss.length).length = ss.length + 1 := by rw [three_length, List.length_append, List.length_singleton]
    have h3 : ∀ x ∈ three ns (ss ++ [[]]) ss.length, x.length ≤ 3 * ss.length + 1 + 1 + 1 := by
      unfold three
      refine addOne_le (addOne_le (addOne_le fun x hx => ?_))
      rcases List.mem_append.1 hx with hx | hx
      · exact h x hx
      · rw [List.mem_singleton.1 hx]; exact Nat.zero_le _
    have := initF_small (l := l) (N := N) hN d _ (fun x hx => by rw [hl]; have := h3 x hx; omega) x hx
    rw [hl] at this
    omega
theorem initS_small {ns : List Int} {N : Nat} (hN : N ≤ 8) : ∀ x ∈ initS ns N [], x.length ≤ 24 := fun x hx => by
  have := initF_small (l := []) hN N [] (fun x hx => by cases hx) x hx
  rw [List.length_nil] at this
  omega
theorem initS_len {ns : List Int} : ∀ (d : Nat) (ss : List (List Ow)), (initS ns d ss).length = ss.length + d
  | 0, ss => rfl
  | d + 1, ss => by
    rw [initS, initS_len d, three_length, List.length_append, List.length_singleton]
    omega
theorem sortI_nodes {l : List Int} (h : ∀ x ∈ l, nodeB x = true) : ∀ x ∈ sortI l, 0 ≤ x := fun x hx => (node_iff.1 (h x (mem_sortI.1 hx))).1
theorem sortI_nodup {l : List Int} (h : l.Nodup) : (sortI l).Nodup := (List.mergeSort_perm l _).nodup_iff.2 h
end Go.Proofs.Ytmdebnfjhnhcjaa.PmQ
namespace Go.Proofs.Ytmdebnfjhnhcjaa.Pure
open Go.RowKit Go.Proofs.Ytmdebnfjhnhcjaa.QB Go.Proofs.YtmdebnfjhnhcjaaW.PrintWords Go.Proofs.YtmdebnfjhnhcjaaW.PrintLast Go.Proofs.YtmdebnfjhnhcjaaW.PrintMore Go.Proofs.Ytmdebnfjhnhcjaa.RlP Go.Proofs.Ytmdebnfjhnhcjaa.PlI Go.Proofs.Ytmdebnfjhnhcjaa.PlS Go.Proofs.Ytmdebnfjhnhcjaa.PmQ
set_option linter.unusedVariables false
theorem PlacementEven : thermographlaw14_PlacementEven.Pure := fun l0 a1 _ _ _ _ => by
  refine ⟨400000000, ?_⟩
  unfold thermographlaw14_PlacementEven.f
  by_cases hl : (l0.length : Int) > 256
  · rw [if_pos hl]
  · rw [if_neg hl, placement_Init.f_eq (by omega), thermographref14_Init.f_eq (by omega), Option.bind_some, Option.bind_some, if_pos rfl]
    by_cases hc : (initF l0 a1).2.2.2 = 0
    · obtain ⟨N, rfl, hN1, hN8, h3, hnd, hno, e⟩ := initF_ok hc
      rw [e]
      show thermographlaw14_PlacementEven.j0 _ 0 0 false 1 (sortI l0) (initS (sortI l0) N []) = _
      rw [thermographlaw14_PlacementEven.j0, if_neg Bool.false_ne_true]
      obtain ⟨⟨a, ha⟩, hex, hln⟩ := initS_even (ns := sortI l0) (sortI_nodup hnd) (sortI_nodes hno) (by rw [sortI_length]; exact h3) N [] ⟨0, fun x _ => .inl rfl⟩ (fun h => by simp at h)
      have hex := hex (by omega)
      rw [List.length_nil, Nat.add_zero] at hln
      have ha8 : (a : Int) ≤ 8 := by
        obtain ⟨x, hx, _⟩ := hex
        have h1 := ha x hx
        have h2 := loadP_le (initS (sortI l0) N []) x
        rcases h1 with h1 | h1 <;> omega
      exact even_l0 1 (sortI l0) (initS (sortI l0) N []) ⟨by omega, fun x hx => by have := initS_small hN8 x hx; omega⟩ (by omega) (by rw [sortI_length]; omega) a ha hex 300000000 (by omega) (sortI l0).length _ 0 8 0 (by omega) (by rw [sortI_length]; omega) ha8 (by omega) (by omega) (by omega) (fun j hj h => by omega)
    · show thermographlaw14_PlacementEven.j0 _ (initF l0 a1).2.2.2 (initF l0 a1).2.2.2 ((initF l0 a1).2.2.2 != 0) _ _ _ = _
      rw [show ((initF l0 a1).2.2.2 != 0) = true from by simpa using hc, thermographlaw14_PlacementEven.j0, if_pos rfl]
      simp
end Go.Proofs.Ytmdebnfjhnhcjaa.Pure
