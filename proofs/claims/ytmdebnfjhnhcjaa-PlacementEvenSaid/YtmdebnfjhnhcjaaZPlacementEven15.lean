/- The program's Init, in plain words: it comes to the document's initF.
   The program's Init as a Lean function laid by hand (a stand-in for the printer). -/
import Derived.Test.YtmdebnfjhnhcjaaZPlacementEven14
import Derived.Lib.SlicesCompact
import Derived.Lib.RowBridge
import Derived.Test.YtmdebnfjhnhcjaaZPlacementEven12
import Derived.Test.YtmdebnfjhnhcjaaZPlacementEven2
namespace Go.Proofs.Ytmdebnfjhnhcjaa.RlP
open Go.RowKit Go.Proofs.YtmdebnfjhnhcjaaW.PrintWords Go.Proofs.YtmdebnfjhnhcjaaW.PrintLast Go.Proofs.YtmdebnfjhnhcjaaW.PrintMore Go.Proofs.Ytmdebnfjhnhcjaa.QB Go.Proofs.Ytmdebnfjhnhcjaa.PlI Go.Proofs.Ytmdebnfjhnhcjaa.PlS
set_option linter.unusedVariables false
set_option linter.unusedSimpArgs false
def sortI (l : List Int) : List Int := l.mergeSort fun x y => decide (x ≤ y)
theorem sortI_le (l : List Int) : (sortI l).Pairwise fun x y => x ≤ y := by
  have := List.pairwise_mergeSort (le := fun x y : Int => decide (x ≤ y)) (fun a b c h1 h2 => by simp only [decide_eq_true_eq] at h1 h2 ⊢; omega) (fun a b => by simp only [Bool.or_eq_true, decide_eq_true_eq]; omega) l
  exact this.imp fun h => by simpa using h
theorem mem_sortI {l : List Int} {x : Int} : x ∈ sortI l ↔ x ∈ l := (List.mergeSort_perm l _).mem_iff
theorem sortI_length (l : List Int) : (sortI l).length = l.length := List.length_mergeSort l
theorem sortI_lt {l : List Int} (h : l.Nodup) : (sortI l).Pairwise fun x y => x < y := by
  have h1 := sortI_le l
  have h2 : (sortI l).Nodup := (List.mergeSort_perm l _).nodup_iff.2 h
  exact h1.imp₂ (fun a b h3 h4 => by omega) h2
theorem sorted_ext : ∀ {l m : List Int}, l.Pairwise (fun x y => x < y) → m.Pairwise (fun x y => x < y) → (∀ x, x ∈ l ↔ x ∈ m) → l = m
  | [], [], _, _, _ => rfl
  | [], b :: m, _, _, h => by have := (h b).2 (List.mem_cons_self ..); cases this
  | a :: l, [], _, _, h => by have := (h a).1 (List.mem_cons_self ..); cases this
  | a :: l, b :: m, h1, h2, h => by
    have h1' := List.pairwise_cons.1 h1
    have h2' := List.pairwise_cons.1 h2
    have hab : a = b := by
      rcases List.mem_cons.1 ((h a).1 (List.mem_cons_self ..)) with e | e
      · exact e
      · rcases List.mem_cons.1 ((h b).2 (List.mem_cons_self ..)) with e2 | e2
        · exact e2.symm
        · have := h1'.1 b e2
          have := h2'.1 a e
          omega
    subst hab
    rw [sorted_ext h1'.2 h2'.2 fun x => ?_]
    constructor
    · intro hx
      rcases List.mem_cons.1 ((h x).1 (List.mem_cons_of_mem _ hx)) with e | e
      · subst e; have := h1'.1 x hx; omega
      · exact e
    · intro hx
      rcases List.mem_cons.1 ((h x).2 (List.mem_cons_of_mem _ hx)) with e | e
      · subst e; have := h2'.1 x hx; omega
      · exact e
theorem withG_lt (l : List Int) (n : Int) : ∀ (d i : Nat), (withG l n d i).Pairwise fun x y => x < y
  | 0, i => List.Pairwise.nil
  | d + 1, i => by
    rw [withG]
    split
    · refine List.pairwise_cons.2 ⟨fun y hy => ?_, withG_lt l n d (i + 1)⟩
      have := (mem_withG l n d (i + 1) y).1 hy
      omega
    · exact withG_lt l n d (i + 1)
theorem withL_lt (l : List Int) (n : Int) : (withL l n).Pairwise fun x y => x < y := withG_lt l n 8 0
theorem node_iff {x : Int} : nodeB x = true ↔ 0 ≤ x ∧ x < 8 := by
  unfold nodeB
  exact decide_eq_true_iff
theorem foldl_with : ∀ (l acc : List Int), (∀ x ∈ l, nodeB x = true) → (∀ x ∈ acc, nodeB x = true) → ∀ x, x ∈ l.foldl withL acc ↔ x ∈ l ∨ x ∈ acc
  | [], acc, _, _, x => by simp
  | a :: l, acc, h1, h2, x => by
    have ha := node_iff.1 (h1 a (List.mem_cons_self ..))
    have hacc : ∀ y ∈ withL acc a, nodeB y = true := fun y hy => node_iff.2 ⟨(mem_withL.1 hy).1, (mem_withL.1 hy).2.1⟩
    rw [List.foldl_cons, foldl_with l _ (fun y hy => h1 y (List.mem_cons_of_mem _ hy)) hacc, mem_withL, List.mem_cons]
    constructor
    · rintro (h | ⟨_, _, h | h⟩)
      · exact .inl (.inr h)
      · exact .inl (.inl h)
      · exact .inr h
    · rintro ((h | h) | h)
      · subst h; exact .inr ⟨ha.1, ha.2, .inl rfl⟩
      · exact .inl h
      · have := node_iff.1 (h2 x h)
        exact .inr ⟨this.1, this.2, .inr h⟩
theorem foldl_lt : ∀ (l acc : List Int), acc.Pairwise (fun x y => x < y) → (l.foldl withL acc).Pairwise fun x y => x < y
  | [], acc, h => h
  | a :: l, acc, _ => foldl_lt l _ (withL_lt _ _)
theorem initN_acc : ∀ (l acc : List Int), (∀ x ∈ acc, nodeB x = true) → initN l acc = if (∀ x ∈ l, nodeB x = true) ∧ l.Nodup ∧ ∀ x ∈ l, ¬ x ∈ acc then some (l.foldl withL acc) else none
  | [], acc, _ => by simp [initN]
  | a :: l, acc, h => by
    have hacc : ∀ y ∈ withL acc a, nodeB y = true := fun y hy => node_iff.2 ⟨(mem_withL.1 hy).1, (mem_withL.1 hy).2.1⟩
    rw [initN, initN_acc l _ hacc, List.foldl_cons]
    by_cases h1 : nodeB a = true ∧ ¬ a ∈ acc
    · rw [if_pos h1]
      have hna := node_iff.1 h1.1
      have e : ((∀ x ∈ l, nodeB x = true) ∧ l.Nodup ∧ ∀ x ∈ l, ¬ x ∈ withL acc a) ↔ ((∀ x ∈ a :: l, nodeB x = true) ∧ (a :: l).Nodup ∧ ∀ x ∈ a :: l, ¬ x ∈ acc) := by
        constructor
        · rintro ⟨h2, h3, h4⟩
          refine ⟨fun x hx => ?_, List.nodup_cons.2 ⟨fun ha => h4 a ha (mem_withL.2 ⟨hna.1, hna.2, .inl rfl⟩), h3⟩, fun x hx hxa => ?_⟩
          · rcases List.mem_cons.1 hx with rfl | hx
            · exact h1.1
            · exact h2 x hx
          · rcases List.mem_cons.1 hx with rfl | hx
            · exact h1.2 hxa
            · have := node_iff.1 (h2 x hx)
              exact h4 x hx (mem_withL.2 ⟨this.1, this.2, .inr hxa⟩)
        · rintro ⟨h2, h3, h4⟩
          have h3' := List.nodup_cons.1 h3
          refine ⟨fun x hx => h2 x (List.mem_cons_of_mem _ hx), h3'.2, fun x hx hxa => ?_⟩
          rcases (mem_withL.1 hxa).2.2 with rfl | hxa
          · exact h3'.1 hx
          · exact h4 x (List.mem_cons_of_mem _ hx) hxa
      by_cases h5 : (∀ x ∈ l, nodeB x = true) ∧ l.Nodup ∧ ∀ x ∈ l, ¬ x ∈ withL acc a
      · rw [if_pos h5, if_pos (e.1 h5)]
      · rw [if_neg h5, if_neg (fun hh => h5 (e.2 hh))]
    · rw [if_neg h1, if_neg]
      rintro ⟨h2, _, h4⟩
      exact h1 ⟨h2 a (List.mem_cons_self ..), h4 a (List.mem_cons_self ..)⟩
theorem initN_eq (l : List Int) : initN l [] = if (∀ x ∈ l, nodeB x = true) ∧ l.Nodup then some (sortI l) else none := by
  rw [initN_acc l [] (fun x hx => by cases hx)]
  by_cases h : (∀ x ∈ l, nodeB x = true) ∧ l.Nodup
  · rw [if_pos h, if_pos ⟨h.1, h.2, fun x _ hx => by cases hx⟩]
    congr 1
    refine sorted_ext (foldl_lt l [] List.Pairwise.nil) (sortI_lt h.2) fun x => ?_
    rw [foldl_with l [] h.1 (fun x hx => by cases hx), mem_sortI]
    simp
  · rw [if_neg h, if_neg (fun hh => h ⟨hh.1, hh.2.1⟩)]
/-! What the program asks of its sorted list. -/
theorem compact_lt {l : List Int} (h : l.Pairwise fun x y => x ≤ y) : (Lib.compact l).length < l.length ↔ ¬ l.Nodup := by
  have hg : ∀ i (hi : i < l.length), l.toArray[i]! = l[i] := fun i hi => by simp [hi]
  have e : (Lib.compact l).length < l.length ↔ ∃ j, j < l.length ∧ Lib.keeps l.toArray j = false := by
    unfold Lib.compact Lib.compactUpTo
    rw [List.length_map]
    have h2 : l.length = (List.range l.length).length := List.length_range.symm
    conv => lhs; rhs; rw [h2]
    rw [List.length_filter_lt_length_iff_exists]
    constructor
    · rintro ⟨j, hj, hk⟩
      exact ⟨j, List.mem_range.1 hj, by simpa using hk⟩
    · rintro ⟨j, hj, hk⟩
      exact ⟨j, List.mem_range.2 hj, by simpa using hk⟩
  rw [e]
  constructor
  · rintro ⟨j, hj, hk⟩ hnd
    unfold Lib.keeps at hk
    have hk2 := of_decide_eq_false hk
    have h0 : 0 < j := Nat.pos_of_ne_zero fun e => hk2 (.inl e)
    have heq : l[j] = l[j - 1] := by
      have : l.toArray[j]! = l.toArray[j - 1]! := Decidable.byContradiction fun hne => hk2 (.inr hne)
      rwa [hg j hj, hg (j - 1) (by omega)] at this
    exact List.pairwise_iff_getElem.1 hnd (j - 1) j (by omega) hj (by omega) heq.symm
  · intro hnd
    refine Decidable.byContradiction fun hno => hnd ?_
    refine List.pairwise_iff_getElem.2 fun i j hi hj hij => ?_
    have hk : Lib.keeps l.toArray j = true := by
      cases hb : Lib.keeps l.toArray j with
      | true => rfl
      | false => exact absurd ⟨j, hj, hb⟩ hno
    unfold Lib.keeps at hk
    have hk2 := (of_decide_eq_true hk).resolve_left (by omega)
    rw [hg j hj, hg (j - 1) (by omega)] at hk2
    have h3 : l[j - 1] ≤ l[j] := List.pairwise_iff_getElem.1 h (j - 1) j (by omega) hj (by omega)
    have h4 : l[i] ≤ l[j - 1] := by
      rcases Nat.lt_or_ge i (j - 1) with h5 | h5
      · exact List.pairwise_iff_getElem.1 h i (j - 1) (by omega) (by omega) h5
      · have : i = j - 1 := by omega
        subst this
        exact Int.le_refl _
    omega
/-- Whether Init refuses its nodes. -/
def oddB (l : List Int) : Bool := decide (ix (fun x => !nodeB x) (sortI l) ≥ 0)
theorem oddB_iff {l : List Int} : oddB l = false ↔ ∀ x ∈ l, nodeB x = true := by
  unfold oddB
  rcases ix_cases (fun x => !nodeB x) (sortI l) with ⟨h1, h2⟩ | ⟨i, hi, h1, h2, _⟩
  · rw [h1]
    constructor
    · intro _ x hx
      simpa using h2 x (mem_sortI.2 hx)
    · intro _
      rfl
  · rw [h1]
    constructor
    · intro h
      have := of_decide_eq_false h
      omega
    · intro h
      have := h _ (mem_sortI.1 (List.getElem_mem hi))
      rw [this] at h2
      cases h2
theorem initF_odd {l : List Int} (sh : Int) (h : oddB l = true) : initF l sh = (0, [], [], 140) := by
  unfold initF
  split
  · rfl
  · rw [initN_eq, if_neg]
    rintro ⟨h1, _⟩
    rw [oddB_iff.2 h1] at h
    cases h
theorem initF_dup {l : List Int} (sh : Int) (h : (Lib.compact (sortI l)).length < (sortI l).length) : initF l sh = (0, [], [], 140) := by
  unfold initF
  split
  · rfl
  · rw [initN_eq, if_neg]
    rintro ⟨_, h1⟩
    exact (compact_lt (sortI_le l)).1 h ((List.mergeSort_perm l _).nodup_iff.2 h1)
theorem initF_good {l : List Int} (sh : Int) (h0 : ¬ l.length < 3) (h : oddB l = false) (h2 : ¬ (Lib.compact (sortI l)).length < (sortI l).length) : initF l sh = if sh < 1 ∨ 8 < sh then (0, [], [], 1) else (1, sortI l, initS (sortI l) sh.toNat [], 0) := by
  unfold initF
  have hnd : (sortI l).Nodup := Decidable.byContradiction fun hn => h2 ((compact_lt (sortI_le l)).2 hn)
  rw [if_neg h0, initN_eq, if_pos ⟨oddB_iff.1 h, (List.mergeSort_perm l _).nodup_iff.1 hnd⟩]
/-! The shards, all there ahead. -/
def progS (ns : List Int) : Nat → Nat → List (List Ow) → List (List Ow)
  | 0, _, ss => ss
  | d + 1, i, ss => progS ns d (i + 1) (three ns ss i)
theorem findP_app {ss : List (List Ow)} (E : List (List Ow)) {i : Nat} (hi : i < ss.length) (x : Int) : ownsP (ss ++ E) i x = ownsP ss i x := by
  unfold ownsP findP
  rw [if_pos ⟨by omega, by rw [List.length_append]; omega⟩, if_pos ⟨by omega, by omega⟩, Int.toNat_natCast, List.getD_eq_getElem?_getD, List.getD_eq_getElem?_getD, List.getElem?_append_left hi]
theorem loadP_app (ss : List (List Ow)) {E : List (List Ow)} (hE : ∀ l ∈ E, l = []) (x : Int) : loadP (ss ++ E) x = loadP ss x := by
  unfold loadP
  rw [List.countP_append]
  have : E.countP (fun l => livesO (findO l x)) = 0 := List.countP_eq_zero.2 fun l hl => by rw [hE l hl]; exact Bool.false_ne_true
  omega
theorem leastG_app {ss E : List (List Ow)} (hE : ∀ l ∈ E, l = []) {i : Nat} (hi : i < ss.length) : ∀ (ns : List Int) (b : Int), leastG (ss ++ E) i ns b = leastG ss i ns b
  | [], b => rfl
  | x :: r, b => by
    rw [leastG, leastG, findP_app E hi, loadP_app ss hE, loadP_app ss hE, leastG_app hE hi r]
theorem addOne_app (ns : List Int) {ss E : List (List Ow)} (hE : ∀ l ∈ E, l = []) {i : Nat} (hi : i < ss.length) : addOne ns (ss ++ E) i = addOne ns ss i ++ E := by
  unfold addOne
  rw [leastG_app hE hi, List.getD_eq_getElem?_getD, List.getD_eq_getElem?_getD, List.getElem?_append_left hi, List.set_append_left _ _ hi]
theorem three_app (ns : List Int) {ss E : List (List Ow)} (hE : ∀ l ∈ E, l = []) {i : Nat} (hi : i < ss.length) : three ns (ss ++ E) i = three ns ss i ++ E := by
  unfold three
  rw [addOne_app ns hE hi, addOne_app ns hE (by rw [addOne_length]; exact hi), addOne_app ns hE (by rw [addOne_length, addOne_length]; exact hi)]
theorem three_length (ns : List Int) (ss : List (List Ow)) (i : Nat) : (three ns ss i).length = ss.length := by
  unfold three
  rw [addOne_length, addOne_length, addOne_length]
theorem progS_eq (ns : List Int) : ∀ (d i : Nat) (ss : List (List Ow)), ss.length = i → progS ns d i (ss ++ List.replicate d []) = initS ns d ss
  | 0, i, ss, h => by rw [progS, initS, List.replicate_zero, List.append_nil]
  | d + 1, i, ss, h => by
    have e : ss ++ List.replicate (d + 1) [] = (ss ++ [[]]) ++ List.replicate d [] := by rw [List.replicate_succ, List.append_assoc]; rfl
    rw [progS, initS, e, three_app ns (fun l hl => (List.mem_replicate.1 hl).2) (by rw [List.length_append, List.length_singleton]; omega), h]
    exact progS_eq ns d (i + 1) _ (by rw [three_length, List.length_append, List.length_singleton]; omega)
theorem progS_all (ns : List Int) (N : Nat) : progS ns N 0 (List.replicate N []) = initS ns N [] := by
  have := progS_eq ns N 0 [] rfl
  rwa [List.nil_append] at this
end Go.Proofs.Ytmdebnfjhnhcjaa.RlP
namespace Go.Proofs.Ytmdebnfjhnhcjaa.PmS
open Go.RowKit Go.Proofs.YtmdebnfjhnhcjaaW.PrintWords Go.Proofs.YtmdebnfjhnhcjaaW.PrintLast Go.Proofs.YtmdebnfjhnhcjaaW.PrintMore Go.Proofs.Ytmdebnfjhnhcjaa.QB Go.Proofs.Ytmdebnfjhnhcjaa.Sl Go.Proofs.Ytmdebnfjhnhcjaa.PlI Go.Proofs.Ytmdebnfjhnhcjaa.PlM Go.Proofs.Ytmdebnfjhnhcjaa.PlS Go.Proofs.Ytmdebnfjhnhcjaa.RlP
set_option linter.unusedVariables false
set_option linter.unusedSimpArgs false
theorem isNode_b (a : Int) : placement_isNode.f a = some (nodeB a) := by
  unfold placement_isNode.f nodeB
  by_cases h : 0 ≤ a
  · rw [if_pos h]
    simp [h]
  · rw [if_neg h]
    simp [h]
theorem init1_calls (x : Int) (w : World) : Calls Try.prog 32 #[.int .i64 x] w fun e w2 => e = .returned (.bool (!nodeB x)) ∧ Below w.heap.size w w2 := by
  have HI := Aside0.mk (placement_isNode.calls x (nodeB x) w (by rw [isNode_b]))
  go_enter Try.func32, Try.ntmps32
  go_wp2_with (first | (go_at_call 33; go_loud ((with_reducible refine HI.out.mono ?_); rintro e w2 ⟨rfl, hd2⟩; obtain ⟨⟨k2, hk2⟩⟩ := hd2; subst hk2)))
  go_ret
  exact ⟨rfl, pw_below_drewN (Below.refl _ _) _⟩
theorem Shs.fresh {w0 w : World} {L : List Asn} {g N : Nat} {cur : Array Value} (hN : N ≤ maxLen) (hc : cur.size = N) (hcur : ∀ j, j < N → cur[j]? = some (.slice none 0 0)) (h : Sat w0 w (Blk g cur tL :: L)) : Sat w0 w (Shs (.slice (some ⟨g, 0, none⟩) N N) (List.replicate N []) :: L) := by
  have h1 : Sat w0 w (Row kH tL (.slice (some ⟨g, 0, none⟩) N N) (List.replicate N ((none, 0, 0) : Hd)) :: L) := by
    have hge := h.ge
    refine h.imp fun G hG => ?_
    have hl : (List.replicate N ((none, 0, 0) : Hd)).length = N := List.length_replicate
    refine Kd.R_of_own (enc := hv) ⟨by rw [hl]; simp [encs], .inr ⟨g, N, cur, by rw [hl], hge, hG.2, by rw [hl]; exact Nat.le_refl _, hN, by rw [hc]; exact (Nat.mul_one N).symm, ?_⟩⟩ (fun k hk => by
      have : g = k := by simpa [Value.ownBlock] using hk
      subst this
      exact hG.1)
    rw [hl]
    apply List.ext_getElem?
    intro j
    rw [List.getElem?_take]
    by_cases hj : j < N
    · rw [if_pos (by omega), Array.getElem?_toList, hcur j hj]
      simp [encs, hj, hv]
    · rw [if_neg (by omega), List.getElem?_eq_none (by simp [encs]; omega)]
  refine Shs.mk (hs := List.replicate N (none, 0, 0)) (by rw [List.length_replicate, List.length_replicate]) ?_
  clear hc hcur hN h
  have h2 : ∀ (M : Nat) (L' : List Asn), Sat w0 w L' → Sat w0 w (Ins (List.replicate M (none, 0, 0)) (List.replicate M []) ++ L') := by
    intro M
    induction M with
    | zero => exact fun L' h => h
    | succ M ih =>
      intro L' h
      rw [List.replicate_succ, List.replicate_succ]
      exact Sat.nilRow kO tO (ih L' h)
  have h3 := h2 N _ h1
  exact Sat.perm h3 List.perm_middle
theorem join_row {w0 wx w3 : World} {L : List Asn} {v : Value} {l : List Int} (h : Sat w0 wx L) (h3 : Sat wx w3 (Row (Kd.int .i64) tI v l :: [])) : Sat w0 w3 (Row (Kd.int .i64) tI v l :: L) := by
  obtain ⟨G, hG, hGB⟩ := h3.get
  exact h.push h3.below (G' := G) (Kd.R_lower hG h.size) hGB
theorem compact_le (l : List Int) : (Lib.compact l).length ≤ l.length := Lib.compact_length_le l
set_option maxHeartbeats 8000000 in
set_option maxRecDepth 100000 in
theorem pinit_calls (w : World) (A0 : Option Addr) (c0 : Nat) (l : List Int) (sh : Int) (hl : l.length ≤ 1000000) (hC : Kd.C (Kd.int .i64) w A0 l.length l) :
    Calls Try.prog 11 #[.slice A0 l.length c0, .int .i64 sh] w fun e w' => PTold w (initF l sh) e w' := by
  have h0 := (Sat.start w).newBlk zP tP
  have h1 := h0.newBlk #[.slice A0 l.length c0] 22
  have hso := (PmV.sorted_calls ((w.alloc (.cells zP tP)).alloc (.cells #[.slice A0 l.length c0] 22)) (w.alloc (.cells zP tP)).heap.size c0 A0 l hl (Kd.C_below hC (below_alloc (below_alloc (Below.refl _ _) _) _)) (h1.cell 0 rfl) h1.lt)
  rw [alloc_size] at hso
  have HSO := Aside0.mk hso
  clear hso
  have H1 := Aside0.mk (show Sat w ((w.alloc (.cells zP tP)).alloc (.cells #[.slice A0 l.length c0] 22)) (Blk w.heap.size zP tP :: []) from h1.tail)
  have HLS := Aside0.mk (show (PmV.sortL l).length = l.length from sortI_length l)
  have HVC := Aside0.mk (fun (w' : World) => PmV.values_calls A0 l.length c0 w')
  clear h0 h1 hC
  go_enter Try.func11, Try.ntmps11
  go_upto_region 2 with (first
    | (go_at_call 30; go_loud ((with_reducible refine (HVC.out _).mono ?_); rintro e w2 ⟨rfl, rfl⟩))
    | (go_at_call 29; go_loud ((with_reducible refine HSO.out.mono ?_); rintro e w3 ⟨v3, rfl, h3⟩; have H3 := Aside0.mk h3; clear h3)))
  have H4 := Aside0.mk (join_row H1.out H3.out)
  obtain ⟨A3, c3, rfl, hc3, hC3⟩ := H4.out.rowSlice
  have HX := Aside0.mk (idx_nod w3 A3 c3 (PmV.sortL l) (fun x => !nodeB x) (by rw [HLS.out]; omega) hC3 (fun x w1 hb1 => (init1_calls x w1).mono fun e w2 he => ⟨he.1, below_step hb1 he.2⟩))
  have HCR := Aside0.mk (fun (w' : World) (hb : Below w3.heap.size w3 w') => PmV.clone_row (c := c3) (by rw [HLS.out]; exact hl) (Kd.C_below hC3 hb) (H4.out.step hb))
  have HOD := Aside0.mk (show ∀ b, oddB l = b → decide (ix (fun x => !nodeB x) (PmV.sortL l) ≥ 0) = b from fun b h => h)
  have HI3 := Aside0.mk (show l.length < 3 → initF l sh = (0, [], [], 140) from fun h => by unfold initF; rw [if_pos h])
  have HIO := Aside0.mk (show oddB l = true → initF l sh = (0, [], [], 140) from fun h => initF_odd sh h)
  have HID := Aside0.mk (show (Lib.compact (PmV.sortL l)).length < l.length → initF l sh = (0, [], [], 140) from fun h => initF_dup sh (by rw [sortI_length]; exact h))
  have HIG := Aside0.mk (show ¬ l.length < 3 → oddB l = false → ¬ (Lib.compact (PmV.sortL l)).length < l.length → initF l sh = if sh < 1 ∨ 8 < sh then (0, [], [], 1) else (1, PmV.sortL l, initS (PmV.sortL l) sh.toNat [], 0) from fun h1 h2 h3 => initF_good sh h1 h2 (by rw [sortI_length]; exact h3))
  have HCO := Aside0.mk (fun (w' : World) (v : Value) (L : List Asn) (h : Sat w w' (Row (Kd.int .i64) tI v (PmV.sortL l) :: L)) => PmV.compact_row (by rw [HLS.out]; exact hl) h (compact_le _))
  have HH3 := Aside0.mk (fun (hb3 : ∀ _ : Unit, True) => trivial)
  clear H3 H1 HSO HVC hC3 HH3
  obtain ⟨n, hn⟩ : ∃ n, l.length = n := ⟨_, rfl⟩
  have hls := HLS.out
  rw [hn] at hls HI3 HID HIG hl ⊢
  rw [hls] at HX H4 hc3 HCR ⊢
  have HLS2 := Aside0.mk hls
  clear hls HLS hn
  generalize PmV.sortL l = ls at HX H4 HCR HOD HID HIG HCO HLS2
  by_cases h3 : n < 3
  · have k1 : decide ((n : Int) < 3) = true := decide_eq_true (by omega)
    have k2 : decide (n < 3) = true := decide_eq_true h3
    have HF := Aside0.mk (HI3.out h3)
    clear HI3 HIO HID HIG h3 HCR HCO
    go_upto_region 4 with (first
      | (go_at_call 31; go_in)
      | (go_at_call 72; go_loud ((with_reducible refine HX.out.mono ?_); rintro e w4 ⟨rfl, hb4⟩; have H5 := Aside0.mk ((H4.out.step hb4).nth 1 rfl); clear hb4)))
    go_wp2_with (first | ((with_reducible refine gate_store (p := 4) rfl ?_); go_loud (refine wpList_store_row rfl tP (.tmp 4) (.tmp 32) rfl w.heap.size #[.int .i64 0, .slice none 0 0, .slice none 0 0] rfl rfl tP _ H5.out.blk (by kernel_rfl) rfl (by simp [Value.oneCell']) ?_; have HZZ := Aside0.mk (Sat.setRow H5.out #[.int .i64 0, .slice none 0 0, .slice none 0 0]))))
    rw [HF.out]
    refine bodyPost_ret (results_ct rfl _ _ w.heap.size tP #[.int .i64 0, .slice none 0 0, .slice none 0 0] (0, 0) _ rfl HZZ.out.blk Try.underlying25 rfl (by kernel_rfl)) rfl ?_
    exact PTold.nil HZZ.out.below
  have k1 : decide ((n : Int) < 3) = false := decide_eq_false (by omega)
  have k2 : decide (n < 3) = false := decide_eq_false h3
  cases hod : oddB l with
  | true =>
    have HF := Aside0.mk (HIO.out hod)
    have k3 := HOD.out _ hod
    have k4 : decide (0 ≤ ix (fun x => !nodeB x) ls) = true := k3
    clear HI3 HIO HID HIG h3 HCR HCO hod
    generalize ix (fun x => !nodeB x) ls = od at k3 k4 HX
    go_upto_region 4 with (first
      | (go_at_call 31; go_in)
      | (go_at_call 72; go_loud ((with_reducible refine HX.out.mono ?_); rintro e w4 ⟨rfl, hb4⟩; have H5 := Aside0.mk ((H4.out.step hb4).nth 1 rfl); clear hb4)))
    go_wp2_with (first | ((with_reducible refine gate_store (p := 4) rfl ?_); go_loud (refine wpList_store_row rfl tP (.tmp 4) (.tmp 32) rfl w.heap.size #[.int .i64 0, .slice none 0 0, .slice none 0 0] rfl rfl tP _ H5.out.blk (by kernel_rfl) rfl (by simp [Value.oneCell']) ?_; have HZZ := Aside0.mk (Sat.setRow H5.out #[.int .i64 0, .slice none 0 0, .slice none 0 0]))))
    rw [HF.out]
    refine bodyPost_ret (results_ct rfl _ _ w.heap.size tP #[.int .i64 0, .slice none 0 0, .slice none 0 0] (0, 0) _ rfl HZZ.out.blk Try.underlying25 rfl (by kernel_rfl)) rfl ?_
    exact PTold.nil HZZ.out.below
  | false =>
    have k3 := HOD.out _ hod
    have k4 : decide (0 ≤ ix (fun x => !nodeB x) ls) = false := k3
    generalize ix (fun x => !nodeB x) ls = od at k3 k4 HX
    have HIG2 := Aside0.mk (HIG.out h3 hod)
    clear HI3 HIO HIG h3 hod
    by_cases hcp : (Lib.compact ls).length < n
    · have HF := Aside0.mk (HID.out hcp)
      have k5 : decide (((Lib.compact ls).length : Int) < (n : Int)) = true := decide_eq_true (by omega)
      have k6 : decide ((Lib.compact ls).length < n) = true := decide_eq_true hcp
      clear HID HIG2 hcp
      generalize (Lib.compact ls).length = cl at k5 k6 HCO
      go_upto_region 4 with (first
        | (go_at_call 31; go_in)
        | (go_at_call 72; go_loud ((with_reducible refine HX.out.mono ?_); rintro e w4 ⟨rfl, hb4⟩; have HB4 := Aside0.mk hb4; clear hb4))
        | (go_at_call 35; go_loud ((with_reducible refine (HCR.out _ HB4.out).mono ?_); rintro e w5 ⟨v5, rfl, h5, _⟩; have H5 := Aside0.mk h5; clear h5))
        | (go_at_call 34; go_loud ((with_reducible refine (HCO.out _ _ _ H5.out).mono ?_); rintro e w6 ⟨A6, c6, rfl, h6⟩; have H6 := Aside0.mk (h6.nth 1 rfl); clear h6)))
      go_wp2_with (first | ((with_reducible refine gate_store (p := 4) rfl ?_); go_loud (refine wpList_store_row rfl tP (.tmp 4) (.tmp 32) rfl w.heap.size #[.int .i64 0, .slice none 0 0, .slice none 0 0] rfl rfl tP _ H6.out.blk (by kernel_rfl) rfl (by simp [Value.oneCell']) ?_; have HZZ := Aside0.mk (Sat.setRow H6.out #[.int .i64 0, .slice none 0 0, .slice none 0 0]))))
      rw [HF.out]
      refine bodyPost_ret (results_ct rfl _ _ w.heap.size tP #[.int .i64 0, .slice none 0 0, .slice none 0 0] (0, 0) _ rfl HZZ.out.blk Try.underlying25 rfl (by kernel_rfl)) rfl ?_
      exact PTold.nil HZZ.out.below
    · have k5 : decide (((Lib.compact ls).length : Int) < (n : Int)) = false := decide_eq_false (by omega)
      have k6 : decide ((Lib.compact ls).length < n) = false := decide_eq_false hcp
      have HIH := Aside0.mk (HIG2.out hcp)
      clear HID HIG2 hcp
      generalize (Lib.compact ls).length = cl at k5 k6 HCO
      go_upto_region 5 with (first
        | (go_at_call 31; go_in)
        | (go_at_call 72; go_loud ((with_reducible refine HX.out.mono ?_); rintro e w4 ⟨rfl, hb4⟩; have HB4 := Aside0.mk hb4; clear hb4))
        | (go_at_call 35; go_loud ((with_reducible refine (HCR.out _ HB4.out).mono ?_); rintro e w5 ⟨v5, rfl, h5, _⟩; have H5 := Aside0.mk h5; clear h5))
        | (go_at_call 34; go_loud ((with_reducible refine (HCO.out _ _ _ H5.out).mono ?_); rintro e w6 ⟨A6, c6, rfl, h6⟩; have H6 := Aside0.mk (h6.nth 1 rfl); clear h6)))
      clear k1 k2 k3 k4 k5 k6 HX HCO HCR HOD
      by_cases hs1 : sh < 1
      · have f1 : decide (sh < 1) = true := decide_eq_true hs1
        have HF := Aside0.mk (show initF l sh = (0, [], [], 1) from by rw [HIH.out]; exact if_pos (.inl hs1))
        clear hs1 HIH
        go_wp2_with (first | ((with_reducible refine gate_store (p := 4) rfl ?_); go_loud (refine wpList_store_row rfl tP (.tmp 4) (.tmp 40) rfl w.heap.size #[.int .i64 0, .slice none 0 0, .slice none 0 0] rfl rfl tP _ H6.out.blk (by kernel_rfl) rfl (by simp [Value.oneCell']) ?_; have HZZ := Aside0.mk (Sat.setRow H6.out #[.int .i64 0, .slice none 0 0, .slice none 0 0]))))
        rw [HF.out]
        refine bodyPost_ret (results_ct rfl _ _ w.heap.size tP #[.int .i64 0, .slice none 0 0, .slice none 0 0] (0, 0) _ rfl HZZ.out.blk Try.underlying25 rfl (by kernel_rfl)) rfl ?_
        exact PTold.nil HZZ.out.below
      have f1 : decide (sh < 1) = false := decide_eq_false hs1
      by_cases hs8 : 8 < sh
      · have f2 : decide (8 < sh) = true := decide_eq_true hs8
        have HF := Aside0.mk (show initF l sh = (0, [], [], 1) from by rw [HIH.out]; exact if_pos (.inr hs8))
        clear hs1 hs8 HIH
        go_wp2_with (first | ((with_reducible refine gate_store (p := 4) rfl ?_); go_loud (refine wpList_store_row rfl tP (.tmp 4) (.tmp 40) rfl w.heap.size #[.int .i64 0, .slice none 0 0, .slice none 0 0] rfl rfl tP _ H6.out.blk (by kernel_rfl) rfl (by simp [Value.oneCell']) ?_; have HZZ := Aside0.mk (Sat.setRow H6.out #[.int .i64 0, .slice none 0 0, .slice none 0 0]))))
        rw [HF.out]
        refine bodyPost_ret (results_ct rfl _ _ w.heap.size tP #[.int .i64 0, .slice none 0 0, .slice none 0 0] (0, 0) _ rfl HZZ.out.blk Try.underlying25 rfl (by kernel_rfl)) rfl ?_
        exact PTold.nil HZZ.out.below
      have f2 : decide (8 < sh) = false := decide_eq_false hs8
      obtain ⟨N, rfl⟩ : ∃ N : Nat, sh = (N : Int) := ⟨sh.toNat, by omega⟩
      have hN1 : 1 ≤ N := by omega
      have hN8 : N ≤ 8 := by omega
      have HIF := Aside0.mk (show initF l (N : Int) = (1, ls, progS ls N 0 (List.replicate N []), 0) from by
        rw [HIH.out, if_neg (fun h => h.elim hs1 hs8), progS_all, Int.toNat_natCast])
      clear hs1 hs8 HIH
      have q1 := print_make_of (P := Try.prog) 23 tL (.slice none 0 0) 24 Try.underlying23 infoL rfl (by decide) N (by omega) w6
      have h7 := (H6.out.nth 1 rfl).newBlk (madeCells #[.slice none 0 0] N) tL
      have h8 := Shs.fresh (N := N) (by unfold maxLen; omega) (size_madeCells _ _) (fun j hj => by
        rw [← Array.getElem?_toList, toList_madeCells_one, List.getElem?_replicate, if_pos hj]) h7
      have h9 := h8.newBlk #[.int .i64 1, .slice A3 n c3, .slice (some ⟨w6.heap.size, 0, none⟩) N N] tM
      rw [alloc_size] at h9
      have H9 := Aside0.mk (show Sat w _ (Mk (w6.heap.size + 1) 1 ls (List.replicate N []) :: Blk w.heap.size zP tP :: []) from Mk.mk ((h9.nth 2 rfl).nth 1 rfl))
      clear h7 h8 h9
      go_upto_region 8 with (fail)
      generalize w6.heap.size + 1 = g8 at H9 ⊢
      clear q1
      generalize ((w6.alloc (.cells (madeCells #[.slice none 0 0] N) tL)).alloc (.cells #[.int .i64 1, .slice A3 n c3, .slice (some ⟨w6.heap.size, 0, none⟩) N N] tM)) = w9 at H9 ⊢
      clear f1 f2 H6 H5 HB4 H4
      have HNL := Aside0.mk (show ls.length ≤ 100000000 from by rw [HLS2.out]; omega)
      go_wp2
      go_loopw [48] (fun v48 wr => ∃ (i : Nat) (ss : List (List Ow)), i ≤ N ∧ v48 = .int .i64 i ∧ Aside0 (ss.length = N) ∧ Aside0 (∀ l ∈ ss, l.length ≤ 3 * i ∧ RisO l) ∧ Aside0 (progS ls (N - i) i ss = progS ls N 0 (List.replicate N [])) ∧ Aside0 (Sat w wr (Mk g8 1 ls ss :: Blk w.heap.size zP tP :: []))) (fun v48 _ => (N - intOf v48).toNat)
      case atStart => exact ⟨0, _, Nat.zero_le _, rfl, ⟨List.length_replicate⟩, ⟨fun l hl => by rw [(List.mem_replicate.1 hl).2]; exact ⟨Nat.zero_le _, List.Pairwise.nil⟩⟩, ⟨rfl⟩, H9⟩
      case round =>
        obtain ⟨i, ss, hiN, rfl, HSL, HL, HE, HS⟩ := hrel
        clear H9
        by_cases hi : i < N
        · have e1 : decide ((i : Int) < (N : Int)) = true := decide_eq_true (by omega)
          have e2 : decide (i < N) = true := decide_eq_true hi
          have HE2 := Aside0.mk (show progS ls (N - (i + 1)) (i + 1) (addN ls i 3 ss) = progS ls N 0 (List.replicate N []) from by
            rw [← HE.out]
            have e : N - i = (N - (i + 1)) + 1 := by omega
            rw [e, progS]
            rfl)
          go_wp2
          go_loopw [51] (fun v51 wt => ∃ (j : Nat) (sb : List (List Ow)), j ≤ 3 ∧ v51 = .int .i64 j ∧ Aside0 (sb.length = N) ∧ Aside0 (∀ l ∈ sb, l.length ≤ 3 * i + j ∧ RisO l) ∧ Aside0 (addN ls i (3 - j) sb = addN ls i 3 ss) ∧ Aside0 (Sat w wt (Mk g8 1 ls sb :: Blk w.heap.size zP tP :: []))) (fun v51 _ => (3 - intOf v51).toNat)
          case atStart => exact ⟨0, ss, Nat.zero_le _, rfl, HSL, HL, ⟨rfl⟩, HS⟩
          case round =>
            obtain ⟨j, sb, hj3, rfl, HSB, HLB, HAB, HSS⟩ := hrel
            clear HS
            by_cases hj : j < 3
            · have g1 : decide ((j : Int) < 3) = true := decide_eq_true (by omega)
              have g2 : decide (j < 3) = true := decide_eq_true hj
              have hsb : i < sb.length := by rw [HSB.out]; omega
              have hbo : 3 * i + j ≤ 1000 := by omega
              have hsm : Small sb := ⟨by rw [HSB.out]; omega, fun l hl => by have := (HLB.out l hl).1; omega⟩
              have hil := HLB.out _ (List.getElem_mem hsb)
              have hgd : sb.getD i [] = sb[i] := by rw [List.getD_eq_getElem?_getD, List.getElem?_eq_getElem hsb]; rfl
              have HAO := Aside0.mk (show addOne ls sb i = sb.set i (setL sb[i] ⟨leastG sb i ls (-1), 2, -1⟩) from by unfold addOne; rw [hgd])
              have HAL := Aside0.mk (show ∀ l ∈ addOne ls sb i, l.length ≤ 3 * i + (j + 1) ∧ RisO l from fun l hl => by
                refine ⟨addOne_le (B := 3 * i + j) (fun l hl => (HLB.out l hl).1) l hl, ?_⟩
                rw [HAO.out] at hl
                rcases List.mem_or_eq_of_mem_set hl with hl | rfl
                · exact (HLB.out l hl).2
                · exact ris_set _ hil.2)
              have HAN := Aside0.mk (addOne_length ls sb i)
              obtain ⟨A1, c1, A2, c2, hc1, hc2, hrd⟩ := Mk.read HSS.out
              have HLE := Aside0.mk (least_calls _ g8 1 A1 c1 ls A2 c2 sb i hsm HNL.out hc1 hc2 hrd)
              obtain ⟨le, hle⟩ : ∃ le, leastG sb i ls (-1) = le := ⟨_, rfl⟩
              have HSE := Aside0.mk (fun (w' : World) (h : Sat w w' (Mk g8 1 ls sb :: Blk w.heap.size zP tP :: [])) => set_calls w w' _ g8 1 ls sb i ⟨le, 2, -1⟩ hsb (by rw [HSB.out]; omega) (by have := hil.1; omega) hil.2 h)
              rw [hle] at HLE HAO
              clear hrd hgd hle hc1 hc2 hsm hil
              go_upto_region 14 with (first
                | (go_at_call 37; go_loud ((with_reducible refine HLE.out.mono ?_); rintro e w5 ⟨rfl, hb5⟩; have H5 := Aside0.mk (HSS.out.step hb5); clear hb5))
                | (go_at_call 36; go_loud ((with_reducible refine (HSE.out _ H5.out).mono ?_); rintro e w6 ⟨rfl, h6⟩; rw [← HAO.out] at h6; have H6 := Aside0.mk h6; clear h6)))
              have HA9 := Aside0.mk (show addN ls i (3 - (j + 1)) (addOne ls sb i) = addN ls i 3 ss from by
                rw [← HAB.out]
                have e : 3 - j = (3 - (j + 1)) + 1 := by omega
                rw [e, addN])
              clear HAO HSE hsb
              go_wp2
              go_roundw
              case measure => simp only [intOf]; omega
              case rel => exact ⟨j + 1, _, by omega, congrArg (Value.int .i64) (by omega), ⟨by rw [HAN.out]; exact HSB.out⟩, HAL, HA9, H6⟩
            · have g1 : decide ((j : Int) < 3) = false := decide_eq_false (by omega)
              have g2 : decide (j < 3) = false := decide_eq_false hj
              have hj' : j = 3 := by omega
              have HE3 := Aside0.mk (show progS ls (N - (i + 1)) (i + 1) sb = progS ls N 0 (List.replicate N []) from by
                rw [← HE2.out, ← HAB.out, hj']
                rfl)
              have HL3 := Aside0.mk (show ∀ l ∈ sb, l.length ≤ 3 * (i + 1) ∧ RisO l from fun l hl => ⟨by have := (HLB.out l hl).1; omega, (HLB.out l hl).2⟩)
              clear hj hj'
              go_wp2
              go_roundw
              case measure => simp only [intOf]; omega
              case rel => exact ⟨i + 1, sb, by omega, congrArg (Value.int .i64) (by omega), HSB, HL3, HE3, HSS⟩
        · have e1 : decide ((i : Int) < (N : Int)) = false := decide_eq_false (by omega)
          have e2 : decide (i < N) = false := decide_eq_false hi
          have HIK := Aside0.mk (show initF l (N : Int) = (1, ls, ss, 0) from by
            have e : N - i = 0 := by omega
            rw [HIF.out, ← HE.out, e, progS])
          obtain ⟨A1, c1, A2, c2, hc1, hc2, hp⟩ := Mk.open HS.out
          have b0 := hp.cell 0 (v := .int .i64 1) rfl
          have b1 := hp.cell 1 (v := .slice A1 ls.length c1) rfl
          have b2 := hp.cell 2 (v := .slice A2 ss.length c2) rfl
          have HX := Aside0.mk (hp.nth 3 rfl)
          clear hp HE HL HSL
          go_wp2_with (first | ((with_reducible refine gate_store (p := 4) rfl ?_); go_loud (refine wpList_store_row rfl tP (.tmp 4) (.tmp 65) rfl w.heap.size #[.int .i64 1, .slice A1 ls.length c1, .slice A2 ss.length c2] rfl rfl tP _ HX.out.blk (by kernel_rfl) rfl (by simp [Value.oneCell']) ?_; have HZZ := Aside0.mk (Sat.setRow HX.out #[.int .i64 1, .slice A1 ls.length c1, .slice A2 ss.length c2]))))
          rw [HIK.out]
          refine bodyPost_ret (results_ct rfl _ _ w.heap.size tP #[.int .i64 1, .slice A1 ls.length c1, .slice A2 ss.length c2] (0, 0) _ rfl HZZ.out.blk Try.underlying25 rfl (by kernel_rfl)) rfl ?_
          exact PTold.of (show Sat w _ (Row (Kd.int .i64) tI (.slice A1 ls.length c1) ls :: Shs (.slice A2 ss.length c2) ss :: _) from (HZZ.out.tail).tail)
end Go.Proofs.Ytmdebnfjhnhcjaa.PmS
namespace Go.Proofs.Ytmdebnfjhnhcjaa.QB
open Go.RowKit Go.Proofs.YtmdebnfjhnhcjaaW.PrintWords Go.Proofs.YtmdebnfjhnhcjaaW.PrintLast Go.Proofs.Ytmdebnfjhnhcjaa.RlP Go.Proofs.Ytmdebnfjhnhcjaa.PmS
set_option linter.unusedVariables false
def placement_Init.f (l0 : List Int) (a1 : Int) : Option (Int × List Int × (List (List (S41))) × Int) := if l0.length ≤ 1000000 then some (initF l0 a1) else none
theorem placement_Init.f_eq {l0 : List Int} (h : l0.length ≤ 1000000) (a1 : Int) : placement_Init.f l0 a1 = some (initF l0 a1) := if_pos h
theorem placement_Init.calls (A0 : Option Addr) (c0 : Nat) (l0 : List Int) (a1 : Int) (r1 : Int) (r2 : List Int) (r3 : List (List (S41))) (r4 : Int) (w : World) (hr0 : Kd.C (Kd.int .i64) w A0 l0.length l0) (hc0 : l0.length ≤ c0) (h : placement_Init.f l0 a1 = some (r1, r2, r3, r4)) :
    Calls Try.prog 11 #[.slice A0 l0.length c0, .int .i64 a1] w fun e w' => ∃ v1_ v2_ : Value, e = .returned (.tuple #[.agg #[.int .i64 r1, v1_, v2_], .int .i64 r4]) ∧ Kd.R (Kd.int .i64) 3 w' w.heap.size (fun _ => True) v1_ r2 ∧ Kd.S (Kd.slice 41 k41) 39 w' w.heap.size (fun _ => True) v2_ r3 ∧ Below w.heap.size w w' := by
  unfold placement_Init.f at h
  split at h
  · rename_i hl
    have h := Option.some.inj h
    refine (pinit_calls w A0 c0 l0 a1 hl hr0).mono fun e w' he => ?_
    rw [h] at he
    exact he
  · cases h
end Go.Proofs.Ytmdebnfjhnhcjaa.QB
