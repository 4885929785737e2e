/- The document's functions on placements, in plain words: what the printed ones come to.
   More words for a walk's memory (see Sl): whole structs stored. -/
import Derived.Test.YtmdebnfjhnhcjaaZPlacementEven2
import Derived.Test.YtmdebnfjhnhcjaaZPlacementEven3
import Derived.Test.YtmdebnfjhnhcjaaZPlacementEven4
import Derived.Test.YtmdebnfjhnhcjaaZPlacementEven5
import Derived.Test.YtmdebnfjhnhcjaaZPlacementEven1
import Derived.Laws.Rows
import Derived.Laws.Tables
namespace Go.Proofs.Ytmdebnfjhnhcjaa.RlP
open Go.RowKit Go.Proofs.YtmdebnfjhnhcjaaW.PrintWords Go.Proofs.YtmdebnfjhnhcjaaW.PrintLast Go.Proofs.YtmdebnfjhnhcjaaW.PrintMore Go.Proofs.Ytmdebnfjhnhcjaa.QB Go.Proofs.Ytmdebnfjhnhcjaa.PlI Go.Proofs.Ytmdebnfjhnhcjaa.PlS
set_option linter.unusedVariables false
set_option linter.unusedSimpArgs false
theorem w1 {i : Nat} (h : i ≤ 1000000000) : wrap64 ((i : Int) + 1) = ((i + 1 : Nat) : Int) := by unfold wrap64; omega
theorem rdO (l : List Ow) (i : Nat) : rd_T41 l (i : Int) = at_ l i := by unfold rd_T41 at_; rw [Int.toNat_natCast]
theorem at_get {l : List Ow} {i : Nat} (h : i < l.length) : at_ l i = l[i] := by unfold at_; rw [List.getD_eq_getElem?_getD, List.getElem?_eq_getElem h]; rfl
theorem rd_get {l : List Int} {i : Nat} (h : i < l.length) : rd l (i : Int) = l[i] := by unfold rd; rw [Int.toNat_natCast, List.getD_eq_getElem?_getD, List.getElem?_eq_getElem h]; rfl
theorem drop_at {α : Type} {l : List α} {i : Nat} (h : i < l.length) : l.drop i = l[i] :: l.drop (i + 1) := List.drop_eq_getElem_cons h
theorem has_l0 (l : List Int) (n : Int) (hl : l.length ≤ 1000000000) : ∀ (d k i : Nat), i + d = l.length → d < k → thermographref14_has.l0 k l n i = some (decide (n ∈ l.drop i))
  | 0, k + 1, i, hi, hk => by
    rw [thermographref14_has.l0, if_neg (by omega), List.drop_of_length_le (by omega)]
    rfl
  | d + 1, k + 1, i, hi, hk => by
    have hlt : i < l.length := by omega
    have ih := has_l0 l n hl d k (i + 1) (by omega) (by omega)
    rw [thermographref14_has.l0, if_pos (by omega), if_pos (by omega), rd_get hlt, drop_at hlt]
    generalize l.drop (i + 1) = r at ih ⊢
    generalize l[i] = x
    by_cases h : x = n
    · rw [if_pos h]
      simp [h]
    · rw [if_neg h, w1 (by omega), ih]
      congr 1
      rw [Bool.eq_iff_iff]
      simp [Ne.symm h]
theorem has_f {l : List Int} (n : Int) (hl : l.length ≤ 1000000000) {k : Nat} (hk : l.length < k) : thermographref14_has.f k l n = some (decide (n ∈ l)) := by
  unfold thermographref14_has.f
  exact has_l0 l n hl l.length k 0 (by omega) hk
def unsetL (l : List Ow) (n : Int) : List Ow := l.filter fun x => !(x.f0 == n)
theorem unset_l0 (l : List Ow) (n : Int) (hl : l.length ≤ 1000000000) : ∀ (d k i : Nat) (acc : List Ow), i + d = l.length → d < k → acc.length ≤ i → thermographref14_unset.l0 k l n acc i = some (acc ++ unsetL (l.drop i) n)
  | 0, k + 1, i, acc, hi, hk, ha => by
    rw [thermographref14_unset.l0, if_neg (by omega), List.drop_of_length_le (by omega)]
    simp [unsetL]
  | d + 1, k + 1, i, acc, hi, hk, ha => by
    have hlt : i < l.length := by omega
    have ih := fun acc ha => unset_l0 l n hl d k (i + 1) acc (by omega) (by omega) ha
    rw [thermographref14_unset.l0, if_pos (by omega), if_pos (by omega), rdO, at_get hlt, drop_at hlt]
    generalize l.drop (i + 1) = r at ih ⊢
    generalize l[i] = x
    by_cases h : x.f0 = n
    · rw [if_pos h, w1 (by omega), ih acc (by omega)]
      simp [unsetL, h]
    · rw [if_neg h, if_pos (by omega), w1 (by omega), ih _ (by rw [List.length_append, List.length_singleton]; omega)]
      simp [unsetL, h]
theorem unset_f {l : List Ow} (n : Int) (hl : l.length ≤ 1000000000) {k : Nat} (hk : l.length < k) : thermographref14_unset.f k l n = some (unsetL l n) := by
  unfold thermographref14_unset.f
  exact unset_l0 l n hl l.length k 0 [] (by omega) hk (Nat.le_refl _)
def insL (o : Ow) : List Ow → List Ow
  | [] => [o]
  | x :: r => if x.f0 < o.f0 then x :: insL o r else o :: x :: r
def setL (l : List Ow) (o : Ow) : List Ow := insL o (unsetL l o.f0)
theorem unsetL_le (l : List Ow) (n : Int) : (unsetL l n).length ≤ l.length := List.length_filter_le _ _
theorem insL_length (o : Ow) : ∀ l : List Ow, (insL o l).length = l.length + 1
  | [] => rfl
  | x :: r => by
    rw [insL]
    split
    · simp [insL_length o r]
    · simp
theorem setL_le (l : List Ow) (o : Ow) : (setL l o).length ≤ l.length + 1 := by
  unfold setL
  rw [insL_length]
  have := unsetL_le l o.f0
  omega
theorem set_l0 (u : List Ow) (a b c : Int) (hl : u.length ≤ 1000000000) : ∀ (d k i : Nat), i + d = u.length → d < k → thermographref14_set.l0 k u i a b c = some (u.take i ++ insL ⟨a, b, c⟩ (u.drop i))
  | 0, k + 1, i, hi, hk => by
    rw [thermographref14_set.l0, if_neg (by omega), List.drop_of_length_le (by omega)]
    have e : ((i : Int)).toNat = i := Int.toNat_natCast i
    simp only [Option.bind_some, List.length_nil, List.nil_append, e]
    rw [if_pos (by omega), if_pos (by omega), if_pos (by rw [List.length_take]; omega), if_pos (by rw [List.length_take]; omega), if_pos (by simp only [List.length_append, List.length_take, List.length_drop, List.length_singleton]; omega), List.drop_of_length_le (by omega)]
    simp [insL]
  | d + 1, k + 1, i, hi, hk => by
    have hlt : i < u.length := by omega
    have e : ((i : Int)).toNat = i := Int.toNat_natCast i
    rw [thermographref14_set.l0, if_pos (by omega), if_pos (by omega), rdO, at_get hlt, drop_at hlt]
    by_cases h : u[i].f0 < a
    · rw [if_pos h, w1 (by omega), set_l0 u a b c hl d k (i + 1) (by omega) (by omega), insL, if_pos h, List.take_add_one, List.getElem?_eq_getElem hlt, Option.toList_some, List.append_assoc]
      rfl
    · rw [if_neg h]
      simp only [Option.bind_some, List.length_nil, List.nil_append, e]
      rw [if_pos (by omega), if_pos (by rw [List.length_take]; omega), if_pos (by rw [List.length_take]; omega), if_pos (by simp only [List.length_append, List.length_take, List.length_drop, List.length_singleton]; omega), insL, if_neg h, drop_at hlt, List.append_assoc]
      rfl
theorem set_f {l : List Ow} (o : Ow) (hl : l.length ≤ 1000000000) {k : Nat} (hk : l.length < k) : thermographref14_set.f k l o.f0 o.f1 o.f2 = some (setL l o) := by
  unfold thermographref14_set.f
  rw [unset_f _ hl hk, Option.bind_some]
  have hu := unsetL_le l o.f0
  have := set_l0 (unsetL l o.f0) o.f0 o.f1 o.f2 (by omega) (unsetL l o.f0).length k 0 (by omega) (by omega)
  rw [List.take_zero, List.nil_append, List.drop_zero] at this
  exact this
def findO (l : List Ow) (n : Int) : Option Ow := l.find? fun x => x.f0 == n
def tupO : Option Ow → Int × Int × Int × Bool
  | some o => (o.f0, o.f1, o.f2, true)
  | none => (0, 0, 0, false)
def findP (ss : List (List Ow)) (sh n : Int) : Option Ow := if 0 ≤ sh ∧ sh < ss.length then findO (ss.getD sh.toNat []) n else none
def livesO : Option Ow → Bool
  | some o => o.f1 != 3
  | none => false
def ownsP (ss : List (List Ow)) (sh n : Int) : Bool := livesO (findP ss sh n)
def loadP (ss : List (List Ow)) (n : Int) : Nat := ss.countP fun l => livesO (findO l n)
theorem find_l0 (l : List Ow) (n : Int) (hl : l.length ≤ 1000000000) : ∀ (d k i : Nat), i + d = l.length → d < k → thermographref14_Find.l0 k n l i = some (tupO (findO (l.drop i) n))
  | 0, k + 1, i, hi, hk => by
    rw [thermographref14_Find.l0, if_neg (by omega), List.drop_of_length_le (by omega)]
    rfl
  | d + 1, k + 1, i, hi, hk => by
    have hlt : i < l.length := by omega
    have ih := find_l0 l n hl d k (i + 1) (by omega) (by omega)
    rw [thermographref14_Find.l0, if_pos (by omega), if_pos (by omega), rdO, at_get hlt, drop_at hlt]
    generalize l.drop (i + 1) = r at ih ⊢
    generalize l[i] = x
    by_cases h : x.f0 = n
    · rw [if_pos h]
      simp [findO, h, tupO]
    · rw [if_neg h, w1 (by omega), ih]
      simp [findO, h]
/-- What is small enough to be looked at. -/
def Small (ss : List (List Ow)) : Prop := ss.length ≤ 100000000 ∧ ∀ l ∈ ss, l.length ≤ 100000000
theorem Small.getD {ss : List (List Ow)} (h : Small ss) (i : Nat) : (ss.getD i []).length ≤ 100000000 := by
  rw [List.getD_eq_getElem?_getD]
  rcases Nat.lt_or_ge i ss.length with hi | hi
  · rw [List.getElem?_eq_getElem hi]
    exact h.2 _ (List.getElem_mem hi)
  · rw [List.getElem?_eq_none hi]
    simp
theorem find_f {ss : List (List Ow)} (v : Int) (ns : List Int) (sh n : Int) (hs : Small ss) {k : Nat} (hk : 100000002 < k) : thermographref14_Find.f k v ns ss sh n = some (tupO (findP ss sh n)) := by
  unfold thermographref14_Find.f findP
  obtain ⟨k, rfl⟩ : ∃ m, k = m + 1 := ⟨k - 1, by omega⟩
  by_cases h1 : sh < 0
  · rw [if_pos h1, thermographref14_Find.j0, if_pos rfl, if_neg (by omega)]
    rfl
  · rw [if_neg h1, thermographref14_Find.j0]
    by_cases h2 : sh ≥ (ss.length : Int)
    · rw [if_pos (by simpa using h2), if_neg (by omega)]
      rfl
    · rw [if_neg (by simpa using h2), if_pos (by omega), if_pos (by omega), if_pos ⟨by omega, by omega⟩]
      have hl := hs.getD sh.toNat
      exact find_l0 (ss.getD sh.toNat []) n (by omega) (ss.getD sh.toNat []).length k 0 (by omega) (by omega)
theorem owns_f {ss : List (List Ow)} (v : Int) (ns : List Int) (sh n : Int) (hs : Small ss) {k : Nat} (hk : 100000002 < k) : thermographref14_Owns.f k v ns ss sh n = some (ownsP ss sh n) := by
  unfold thermographref14_Owns.f ownsP
  rw [find_f v ns sh n hs hk, Option.bind_some]
  cases findP ss sh n <;> rfl
theorem load_l0 (v : Int) (ns : List Int) (ss : List (List Ow)) (n : Int) (hs : Small ss) (M : Nat) (hM : 100000002 ≤ M) : ∀ (d k i acc : Nat), i + d = ss.length → d + M < k → acc ≤ i → thermographref14_Load.l0 k n acc i v ns ss = some ((acc + loadP (ss.drop i) n : Nat) : Int)
  | 0, k + 1, i, acc, hi, hk, ha => by
    rw [thermographref14_Load.l0, if_neg (by omega), List.drop_of_length_le (by omega)]
    simp [loadP]
  | d + 1, k + 1, i, acc, hi, hk, ha => by
    have hlt : i < ss.length := by omega
    have hsl := hs.1
    rw [thermographref14_Load.l0, if_pos (by omega), owns_f v ns i n hs (by omega), Option.bind_some]
    have e : ownsP ss i n = livesO (findO ss[i] n) := by
      unfold ownsP findP
      rw [if_pos ⟨by omega, by omega⟩, Int.toNat_natCast, List.getD_eq_getElem?_getD, List.getElem?_eq_getElem hlt]
      rfl
    rw [e, drop_at hlt]
    cases hb : livesO (findO ss[i] n) with
    | true =>
      rw [if_pos rfl, w1 (by omega), w1 (by omega), load_l0 v ns ss n hs M hM d k (i + 1) (acc + 1) (by omega) (by omega) (by omega)]
      congr 2
      unfold loadP
      rw [List.countP_cons]
      simp only [hb, if_pos]
      omega
    | false =>
      rw [if_neg (by simp), w1 (by omega), load_l0 v ns ss n hs M hM d k (i + 1) acc (by omega) (by omega) (by omega)]
      congr 2
      unfold loadP
      rw [List.countP_cons]
      simp [hb]
theorem load_f {ss : List (List Ow)} (v : Int) (ns : List Int) (n : Int) (hs : Small ss) {k : Nat} (hk : 300000000 < k) : thermographref14_Load.f k v ns ss n = some ((loadP ss n : Nat) : Int) := by
  unfold thermographref14_Load.f
  have := load_l0 v ns ss n hs 100000002 (Nat.le_refl _) ss.length k 0 0 (by omega) (by have := hs.1; omega) (by omega)
  rw [Nat.zero_add, List.drop_zero] at this
  exact this
/-- The node with the least load that does not own a shard. -/
def leastG (ss : List (List Ow)) (sh : Int) : List Int → Int → Int
  | [], b => b
  | x :: r, b => leastG ss sh r (if ownsP ss sh x = true then b else if b < 0 then x else if loadP ss x < loadP ss b then x else b)
theorem least_l0 (v : Int) (ns : List Int) (ss : List (List Ow)) (sh : Int) (hs : Small ss) (hn : ns.length ≤ 100000000) (M : Nat) (hM : 300000000 ≤ M) : ∀ (d k i : Nat) (b : Int), i + d = ns.length → d + M < k → thermographref14_least.l0 k sh b i v ns ss = some (leastG ss sh (ns.drop i) b)
  | 0, k + 1, i, b, hi, hk => by
    rw [thermographref14_least.l0, if_neg (by omega), List.drop_of_length_le (by omega)]
    rfl
  | d + 1, k + 1, i, b, hi, hk => by
    have hlt : i < ns.length := by omega
    rw [thermographref14_least.l0, if_pos (by omega), if_pos (by omega), rd_get hlt, drop_at hlt, owns_f v ns sh _ hs (by omega), Option.bind_some, leastG, w1 (by omega)]
    have ih := fun b => least_l0 v ns ss sh hs hn M hM d k (i + 1) b (by omega) (by omega)
    by_cases h1 : ownsP ss sh ns[i] = true
    · rw [if_pos h1, if_pos h1, ih]
    · rw [if_neg h1, if_neg h1]
      by_cases h2 : b < 0
      · rw [if_pos h2, if_pos h2, ih]
      · rw [if_neg h2, if_neg h2, load_f v ns _ hs (by omega), load_f v ns _ hs (by omega), Option.bind_some, Option.bind_some]
        by_cases h3 : loadP ss ns[i] < loadP ss b
        · rw [if_pos h3, if_pos (by omega), ih]
        · rw [if_neg h3, if_neg (by omega), ih]
theorem least_f {ss : List (List Ow)} (v : Int) {ns : List Int} (sh : Int) (hs : Small ss) (hn : ns.length ≤ 100000000) {k : Nat} (hk : 500000000 < k) : thermographref14_least.f k v ns ss sh = some (leastG ss sh ns (-1)) := by
  unfold thermographref14_least.f
  have := least_l0 v ns ss sh hs hn 300000000 (Nat.le_refl _) ns.length k 0 (-1) (by omega) (by omega)
  rw [List.drop_zero] at this
  exact this
end Go.Proofs.Ytmdebnfjhnhcjaa.RlP
namespace Go.Proofs.Ytmdebnfjhnhcjaa.Sl
open Go.RowKit Go.Proofs.YtmdebnfjhnhcjaaW.PrintWords Go.Proofs.YtmdebnfjhnhcjaaW.PrintLast Go.Proofs.YtmdebnfjhnhcjaaW.PrintMore
set_option linter.unusedVariables false
theorem Sat.setRow {w0 w : World} {L : List Asn} {g : Nat} {cs : Array Value} {t : TypeId} (h : Sat w0 w (Blk g cs t :: L)) (cs' : Array Value) : Sat w0 (w.setRow g cs') (Blk g cs' t :: L) := by
  have hge := h.ge
  have hlt := h.lt
  have hb := h.below
  refine h.turn (fun G hG hGB => ⟨fun k => k = g, ⟨rfl, setRow_heap w g cs cs' t (0, 0) hG.2⟩, hb.trans ⟨rfl, rfl, rfl, by simp, fun k hk => setRow_other w g k cs' (by omega)⟩, by simp, fun k _ hn => setRow_other w g k cs' (fun e => hn (by rw [e]; exact hG.1)), fun k hk => by subst hk; exact ⟨.inl hG.1, by simpa using hlt⟩⟩)
theorem alloc_size (w : World) (o : Obj) : (w.alloc o).heap.size = w.heap.size + 1 := Array.size_push _
end Go.Proofs.Ytmdebnfjhnhcjaa.Sl
