/- Plain words for a walk's memory: what blocks a call owns, told as a list of assertions, no two of which speak of one block.
   More words for a walk's memory (see Sl). -/
import Derived.Test.YtpjljhiohimgcaaWKept
import Derived.Test.YtpjljhiohimgcaaWMore
import Derived.OneCell
namespace Go.Proofs.Ytpjljhiohimgcaa.Sl
open Go.RowKit Go.Proofs.YtpjljhiohimgcaaW.PrintWords Go.Proofs.YtpjljhiohimgcaaW.PrintLast Go.Proofs.YtpjljhiohimgcaaW.PrintMore
set_option linter.unusedVariables false
set_option linter.unusedSimpArgs false

/-- An assertion on a world (B: where the call's own blocks begin) and on the blocks that it may speak of. -/
structure Asn where
  p : Nat → World → (Nat → Prop) → Prop
  loc : ∀ {B : Nat} {w w' : World} {F : Nat → Prop}, p B w F → (∀ k, F k → w'.heap[k]? = w.heap[k]?) → p B w' F

def Seps (B : Nat) (w : World) : List Asn → (Nat → Prop) → Prop
  | [], _ => True
  | A :: L, F => ∃ G : Nat → Prop, A.p B w G ∧ (∀ k, G k → F k) ∧ Seps B w L (fun k => F k ∧ ¬ G k)

section
variable {B : Nat} {w w' : World}
theorem Seps.mono : ∀ {L : List Asn} {F F' : Nat → Prop}, Seps B w L F → (∀ k, F k → F' k) → Seps B w L F'
  | [], _, _, _, _ => trivial
  | _ :: _, _, _, ⟨G, h1, h2, h3⟩, hF => ⟨G, h1, fun k hk => hF k (h2 k hk), h3.mono (fun k hk => ⟨hF k hk.1, hk.2⟩)⟩
theorem Seps.loc : ∀ {L : List Asn} {F : Nat → Prop}, Seps B w L F → (∀ k, F k → w'.heap[k]? = w.heap[k]?) → Seps B w' L F
  | [], _, _, _ => trivial
  | A :: _, _, ⟨G, h1, h2, h3⟩, hw => ⟨G, A.loc h1 (fun k hk => hw k (h2 k hk)), h2, h3.loc (fun k hk => hw k hk.1)⟩
theorem Seps.swap {A A' : Asn} {L : List Asn} {F : Nat → Prop} : Seps B w (A :: A' :: L) F → Seps B w (A' :: A :: L) F := by
  rintro ⟨G, h1, h2, G', h3, h4, h5⟩
  exact ⟨G', h3, fun k hk => (h4 k hk).1, G, h1, fun k hk => ⟨h2 k hk, fun hk' => (h4 k hk').2 hk⟩, h5.mono (fun k hk => ⟨⟨hk.1.1, hk.2⟩, hk.1.2⟩)⟩
theorem Seps.nth {A : Asn} : ∀ (i : Nat) {L : List Asn} {F : Nat → Prop}, Seps B w L F → L[i]? = some A → Seps B w (A :: L.eraseIdx i) F
  | 0, [], _, _, h => by cases h
  | 0, A' :: L, F, h, e => by
    have e' : A' = A := by simpa using e
    subst e'
    exact h
  | i + 1, [], _, _, h => by simp at h
  | i + 1, A' :: L, F, ⟨G, h1, h2, h3⟩, e => by
    have h4 := Seps.nth i h3 (by simpa using e)
    exact Seps.swap ⟨G, h1, h2, h4⟩
theorem Seps.tail {A : Asn} {L : List Asn} {F : Nat → Prop} : Seps B w (A :: L) F → Seps B w L F := fun ⟨_, _, _, h⟩ => h.mono (fun _ hk => hk.1)
theorem Seps.app : ∀ {L1 L : List Asn} {F G : Nat → Prop}, Seps B w L1 G → (∀ k, G k → F k) → Seps B w L (fun k => F k ∧ ¬ G k) → Seps B w (L1 ++ L) F
  | [], _, _, _, _, _, h => h.mono (fun _ hk => hk.1)
  | A :: L1, L, F, G, ⟨G1, h1, h2, h3⟩, hG, h => ⟨G1, h1, fun k hk => hG k (h2 k hk), Seps.app h3 (fun k hk => ⟨hG k hk.1, hk.2⟩) (h.mono (fun k hk => ⟨⟨hk.1, fun hk' => hk.2 (h2 k hk')⟩, fun hk' => hk.2 hk'.1⟩))⟩
theorem Seps.unapp : ∀ {L1 L : List Asn} {F : Nat → Prop}, Seps B w (L1 ++ L) F → ∃ G : Nat → Prop, Seps B w L1 G ∧ (∀ k, G k → F k) ∧ Seps B w L (fun k => F k ∧ ¬ G k)
  | [], _, _, h => ⟨fun _ => False, trivial, fun _ hk => hk.elim, h.mono (fun _ hk => ⟨hk, fun h => h⟩)⟩
  | A :: L1, L, F, ⟨G1, h1, h2, h3⟩ => by
    obtain ⟨G2, h4, h5, h6⟩ := Seps.unapp h3
    refine ⟨fun k => G1 k ∨ G2 k, ⟨G1, h1, fun k hk => .inl hk, h4.mono (fun k hk => ⟨.inr hk, (h5 k hk).2⟩)⟩, fun k hk => hk.elim (h2 k) (fun h => (h5 k h).1), h6.mono (fun k hk => ⟨hk.1.1, fun h => h.elim hk.1.2 hk.2⟩)⟩
end

/-- The call's own memory: nothing of what lay there before has turned (w0), and all of L holds, each of blocks of its own. -/
structure Sat (w0 w : World) (L : List Asn) : Prop where
  below : Below w0.heap.size w0 w
  seps : Seps w0.heap.size w L (fun k => w0.heap.size ≤ k ∧ k < w.heap.size)

section
variable {w0 w w' : World} {L L1 : List Asn} {A A' : Asn}
theorem Sat.start (w : World) : Sat w w [] := ⟨Below.refl _ _, trivial⟩
theorem Sat.nth (h : Sat w0 w L) (i : Nat) (e : L[i]? = some A) : Sat w0 w (A :: L.eraseIdx i) := ⟨h.below, h.seps.nth i e⟩
theorem Sat.tail (h : Sat w0 w (A :: L)) : Sat w0 w L := ⟨h.below, h.seps.tail⟩
theorem Sat.size (h : Sat w0 w L) : w0.heap.size ≤ w.heap.size := h.below.size
/-- A step that touches no block of the call's. -/
theorem Sat.step (h : Sat w0 w L) (hb : Below w.heap.size w w') : Sat w0 w' L :=
  ⟨below_step h.below hb, (h.seps.loc (fun k hk => hb.block k hk.2)).mono (fun k hk => ⟨hk.1, Nat.lt_of_lt_of_le hk.2 hb.size⟩)⟩
theorem Sat.alloc (h : Sat w0 w L) (o : Obj) : Sat w0 (w.alloc o) L := h.step (below_alloc (Below.refl _ _) o)
theorem Sat.drewN (h : Sat w0 w L) (m : Nat) : Sat w0 (w.drewN m) L := h.step (pw_below_drewN (Below.refl _ _) m)
theorem Sat.drew (h : Sat w0 w L) : Sat w0 w.drew L := h.step (below_drew (Below.refl _ _))
/-- A step that touches the first assertion's blocks alone, and makes new ones. -/
theorem Sat.turn (h : Sat w0 w (A :: L)) (hs : ∀ G : Nat → Prop, A.p w0.heap.size w G → (∀ k, G k → w0.heap.size ≤ k ∧ k < w.heap.size) →
    ∃ G' : Nat → Prop, A'.p w0.heap.size w' G' ∧ Below w0.heap.size w0 w' ∧ w.heap.size ≤ w'.heap.size ∧ (∀ k, k < w.heap.size → ¬ G k → w'.heap[k]? = w.heap[k]?) ∧ (∀ k, G' k → (G k ∨ w.heap.size ≤ k) ∧ k < w'.heap.size)) : Sat w0 w' (A' :: L) := by
  obtain ⟨G, h1, h2, h3⟩ := h.seps
  obtain ⟨G', h4, h5, h6, h7, h8⟩ := hs G h1 h2
  refine ⟨h5, G', h4, fun k hk => ⟨?_, (h8 k hk).2⟩, (h3.loc (fun k hk => h7 k hk.1.2 hk.2)).mono (fun k hk => ⟨⟨hk.1.1, Nat.lt_of_lt_of_le hk.1.2 h6⟩, fun hk' => ?_⟩)⟩
  · rcases (h8 k hk).1 with hg | hg
    · exact (h2 k hg).1
    · exact Nat.le_trans h.size hg
  · rcases (h8 k hk').1 with hg | hg
    · exact hk.2 hg
    · have := hk.1.2
      omega
/-- A step that makes new blocks alone, and tells of them. -/
theorem Sat.push (h : Sat w0 w L) (hb : Below w.heap.size w w') {G' : Nat → Prop} (hA : A'.p w0.heap.size w' G') (hG : ∀ k, G' k → w.heap.size ≤ k ∧ k < w'.heap.size) : Sat w0 w' (A' :: L) :=
  ⟨below_step h.below hb, G', hA, fun k hk => ⟨Nat.le_trans h.size (hG k hk).1, (hG k hk).2⟩, (h.seps.loc (fun k hk => hb.block k hk.2)).mono (fun k hk => ⟨⟨hk.1, Nat.lt_of_lt_of_le hk.2 hb.size⟩, fun hk' => by have := (hG k hk').1; have := hk.2; omega⟩)⟩
/-- What the first assertion says, of other words. -/
theorem Sat.imp (h : Sat w0 w (A :: L)) (hs : ∀ G : Nat → Prop, A.p w0.heap.size w G → A'.p w0.heap.size w G) : Sat w0 w (A' :: L) := by
  obtain ⟨G, h1, h2, h3⟩ := h.seps
  exact ⟨h.below, G, hs G h1, h2, h3⟩
theorem Sat.get (h : Sat w0 w (A :: L)) : ∃ G : Nat → Prop, A.p w0.heap.size w G ∧ (∀ k, G k → w0.heap.size ≤ k ∧ k < w.heap.size) := by
  obtain ⟨G, h1, h2, _⟩ := h.seps
  exact ⟨G, h1, h2⟩
end

/-- Several at once. -/
def All (L : List Asn) : Asn := ⟨fun B w F => Seps B w L F, fun h hw => h.loc hw⟩
def Ex {α : Type} (f : α → Asn) : Asn := ⟨fun B w F => ∃ x, (f x).p B w F, fun ⟨x, h⟩ hw => ⟨x, (f x).loc h hw⟩⟩
def Fact (P : Prop) : Asn := ⟨fun _ _ _ => P, fun h _ => h⟩
section
variable {w0 w : World} {L L1 : List Asn} {A : Asn}
theorem Sat.opened (h : Sat w0 w (All L1 :: L)) : Sat w0 w (L1 ++ L) := by
  obtain ⟨G, h1, h2, h3⟩ := h.seps
  exact ⟨h.below, Seps.app h1 h2 h3⟩
theorem Sat.closed (h : Sat w0 w (L1 ++ L)) : Sat w0 w (All L1 :: L) := by
  obtain ⟨G, h1, h2, h3⟩ := Seps.unapp h.seps
  exact ⟨h.below, G, h1, h2, h3⟩
theorem Sat.some_ {α : Type} {f : α → Asn} (h : Sat w0 w (Ex f :: L)) : ∃ x, Sat w0 w (f x :: L) := by
  obtain ⟨G, ⟨x, h1⟩, h2, h3⟩ := h.seps
  exact ⟨x, h.below, G, h1, h2, h3⟩
theorem Sat.any {α : Type} {f : α → Asn} (x : α) (h : Sat w0 w (f x :: L)) : Sat w0 w (Ex f :: L) := h.imp (fun _ hg => ⟨x, hg⟩)
theorem Sat.fact {P : Prop} (h : Sat w0 w (Fact P :: L)) : P := by
  obtain ⟨G, h1, _⟩ := h.get
  exact h1
theorem Sat.put {P : Prop} (hp : P) (h : Sat w0 w L) : Sat w0 w (Fact P :: L) := ⟨h.below, fun _ => False, hp, fun _ hk => hk.elim, h.seps.mono (fun _ hk => ⟨hk, fun h => h⟩)⟩
end

/-- A block of cells. -/
def Blk (g : Nat) (cs : Array Value) (t : TypeId) : Asn := ⟨fun _ w F => F g ∧ w.heap[g]? = some (.cells cs t (0, 0)), fun h hw => ⟨h.1, (hw _ h.1).trans h.2⟩⟩
section
variable {w0 w : World} {L : List Asn} {g : Nat} {cs : Array Value} {t : TypeId}
theorem Sat.blk (h : Sat w0 w (Blk g cs t :: L)) : w.heap[g]? = some (.cells cs t (0, 0)) := by
  obtain ⟨G, h1, _⟩ := h.get
  exact h1.2
theorem Sat.ge (h : Sat w0 w (Blk g cs t :: L)) : w0.heap.size ≤ g := by
  obtain ⟨G, h1, h2⟩ := h.get
  exact (h2 g h1.1).1
theorem Sat.lt (h : Sat w0 w (Blk g cs t :: L)) : g < w.heap.size := by
  obtain ⟨G, h1, h2⟩ := h.get
  exact (h2 g h1.1).2
theorem Sat.cell (h : Sat w0 w (Blk g cs t :: L)) (j : Nat) {v : Value} (hv : cs[j]? = some v) : w.cell? ⟨g, j, none⟩ = some v := by
  have := h.blk
  simp [World.cell?, this, hv]
theorem Sat.free (h : Sat w0 w (Blk g cs t :: L)) (j : Nat) : w.frozen? ⟨g, j, none⟩ = false := by
  have := h.blk
  simp [World.frozen?, this]
theorem Sat.newBlk (h : Sat w0 w L) (cs : Array Value) (t : TypeId) : Sat w0 (w.alloc (.cells cs t)) (Blk w.heap.size cs t :: L) :=
  h.push (below_alloc (Below.refl _ _) _) (G' := fun k => k = w.heap.size) ⟨rfl, by simpa using heap_alloc_new w (.cells cs t)⟩ (fun k hk => by subst hk; simp)
theorem Sat.setBlk (h : Sat w0 w (Blk g cs t :: L)) (j : Nat) (u : Value) : Sat w0 (w.setCell ⟨g, j, none⟩ u) (Blk g (cs.setIfInBounds j u) t :: L) := by
  have hge := h.ge
  have hlt := h.lt
  have hb := h.below
  refine h.turn (fun G hG hGB => ⟨fun k => k = g, ⟨rfl, ?_⟩, hb.setCell (p := ⟨g, j, none⟩) hge u, by simp [World.setCell], fun k _ hn => Below.heap_setCell w ⟨g, j, none⟩ u k (fun e => hn (by rw [e]; exact hG.1)), fun k hk => by subst hk; exact ⟨.inl hG.1, by simpa [World.setCell] using hlt⟩⟩)
  simp [World.setCell, Array.getElem?_modify, hG.2]
end

/-- A row of the call's own (a slice that begins where its block begins, or nil). -/
def Row {α : Type} (d : Kd α) (e : Nat) (v : Value) (xs : List α) : Asn := ⟨fun B w F => d.R e w B F v xs, fun h hw => Kd.R_move h hw⟩
/-- A row that may begin inside its block. -/
def RowQ {α : Type} (d : Kd α) (e : Nat) (v : Value) (xs : List α) : Asn := ⟨fun B w F => d.Q e w B F v xs, fun h hw => Kd.Q_move h hw⟩
section
variable {α : Type} {d : Kd α} {e : Nat} {v : Value} {xs : List α} {w0 w w' : World} {L : List Asn}
theorem Sat.nilRow (d : Kd α) (e : Nat) (h : Sat w0 w L) : Sat w0 w (Row d e (.slice none 0 0) ([] : List α) :: L) := ⟨h.below, fun _ => False, Kd.R_nil d e w _ _, fun _ hk => hk.elim, h.seps.mono (fun _ hk => ⟨hk, fun h => h⟩)⟩
theorem Sat.row (h : Sat w0 w (Row d e v xs :: L)) : ∃ G : Nat → Prop, d.R e w w0.heap.size G v xs ∧ (∀ k, G k → w0.heap.size ≤ k ∧ k < w.heap.size) := h.get
theorem Sat.rowSlice (h : Sat w0 w (Row d e v xs :: L)) : ∃ A c, v = .slice A xs.length c ∧ xs.length ≤ c ∧ d.C w A xs.length xs := by
  obtain ⟨G, h1, _⟩ := h.get
  exact Kd.R_reads h1
theorem Sat.rowQSlice (h : Sat w0 w (RowQ d e v xs :: L)) : ∃ A c, v = .slice A xs.length c ∧ xs.length ≤ c ∧ d.C w A xs.length xs := by
  obtain ⟨G, h1, _⟩ := h.get
  exact Kd.Q_reads h1
theorem Sat.rowQ (h : Sat w0 w (Row d e v xs :: L)) : Sat w0 w (RowQ d e v xs :: L) := h.imp (fun _ hg => Kd.Q_of_R hg)
/-- Behind a law that ends in grownBy: the row is another one now. -/
theorem Sat.grown (h : Sat w0 w (Row d e v xs :: L)) {v1 : Value} {ys : List α} (h1 : ∀ G : Nat → Prop, d.R e w w0.heap.size G v xs → (∀ k, G k → w0.heap.size ≤ k ∧ k < w.heap.size) → d.R e w' w0.heap.size (fun k => G k ∨ w.heap.size ≤ k) v1 ys) (hb : Below w0.heap.size w0 w') (hg : w.grownBy w' v.ownBlock) : Sat w0 w' (Row d e v1 ys :: L) :=
  h.turn (fun G hG hGB => ⟨fun k => (G k ∨ w.heap.size ≤ k) ∧ k < w'.heap.size, Kd.R_mono (Kd.R_bound (h1 G hG hGB)) (fun k hk => ⟨hk.1, hk.2.2.1⟩), hb, hg.size, fun k hk hn => hg.block k hk (fun e => hn (hG.1 k e.symm)), fun _ hk => hk⟩)
/-- What a printed function hands back, of new blocks. -/
theorem Sat.made (h : Sat w0 w L) (hb : Below w.heap.size w w') (h1 : d.R e w' w.heap.size (fun _ => True) v xs) : Sat w0 w' (Row d e v xs :: L) :=
  h.push hb (G' := fun k => w.heap.size ≤ k ∧ k < w'.heap.size) (Kd.R_lower (Kd.R_mono (Kd.R_bound h1) (fun _ hk => ⟨hk.2.1, hk.2.2.1⟩)) h.size) (fun _ hk => hk)
end

/-! Rows that grow, and that are stored into. -/
section
variable {α : Type} {d : Kd α} {e : Nat} {v v1 : Value} {xs ys : List α} {w0 w w' : World} {L : List Asn}
theorem Sat.grew {G : Nat → Prop} (hb0 : Below w0.heap.size w0 w) (hG : ∀ k, G k → w0.heap.size ≤ k ∧ k < w.heap.size) (h3 : Seps w0.heap.size w L (fun k => (w0.heap.size ≤ k ∧ k < w.heap.size) ∧ ¬ G k))
    (hR : d.R e w' w0.heap.size (fun k => G k ∨ w.heap.size ≤ k) v1 ys) (hb : Below w0.heap.size w0 w') {row : Option Nat} (hg : w.grownBy w' row) (hrow : ∀ k, row = some k → G k) : Sat w0 w' (Row d e v1 ys :: L) := by
  refine ⟨hb, fun k => (G k ∨ w.heap.size ≤ k) ∧ k < w'.heap.size, Kd.R_mono (Kd.R_bound hR) (fun k hk => ⟨hk.1, hk.2.2.1⟩), fun k hk => ⟨?_, hk.2⟩, (h3.loc (fun k hk => hg.block k hk.1.2 (fun e => hk.2 (hrow k e.symm)))).mono (fun k hk => ⟨⟨hk.1.1, Nat.lt_of_lt_of_le hk.1.2 hg.size⟩, fun hk' => ?_⟩)⟩
  · rcases hk.1 with h | h
    · exact (hG k h).1
    · exact Nat.le_trans hb0.size h
  · rcases hk'.1 with h | h
    · exact hk.2 h
    · have := hk.1.2
      omega
theorem Sat.rowBlock (h : Sat w0 w (Row d e v xs :: L)) (hn : 0 < xs.length) : ∃ gb cap, v = .slice (some ⟨gb, 0, none⟩) xs.length cap ∧ w0.heap.size ≤ gb ∧ gb < w.heap.size := by
  obtain ⟨G, h1, hG⟩ := h.get
  obtain ⟨inner, ho⟩ := Kd.R_own h1
  obtain ⟨g, cap, rfl, hb, hl⟩ := ho.form hn
  exact ⟨g, cap, rfl, hb, hl⟩
theorem Sat.apart {g gb n c : Nat} {cs : Array Value} {t : TypeId} (h : Sat w0 w (Blk g cs t :: Row d e (.slice (some ⟨gb, 0, none⟩) n c) xs :: L)) : g ≠ gb := by
  obtain ⟨G, h1, h2, G', h3, h4, h5⟩ := h.seps
  rintro rfl
  exact (h4 g (h3.1 g rfl)).2 h1.1
theorem Sat.apartR {β : Type} {d' : Kd β} {e' : Nat} {ga gb n c n' c' : Nat} {zs : List β} (h : Sat w0 w (Row d e (.slice (some ⟨ga, 0, none⟩) n c) xs :: Row d' e' (.slice (some ⟨gb, 0, none⟩) n' c') zs :: L)) : ga ≠ gb := by
  obtain ⟨G, h1, h2, G', h3, h4, h5⟩ := h.seps
  rintro rfl
  exact (h4 ga (h3.1 ga rfl)).2 (h1.1 ga rfl)
end
section
variable {enc : Value → Value} {k : IntKind} {e gb cap : Nat} {xs : List Int} {w0 w : World} {L : List Asn}
theorem Sat.rowCell (h : Sat w0 w (Row (Kd.int k) e (.slice (some ⟨gb, 0, none⟩) xs.length cap) xs :: L)) (i : Nat) (hi : i < xs.length) : w.cell? ⟨gb, i, none⟩ = some (.int k (xs.getD i 0)) ∧ w.frozen? ⟨gb, i, none⟩ = false := by
  obtain ⟨G, h1, hG⟩ := h.get
  have h2 := Kd.R_cell (0 : Int) h1 (i : Int) (by omega) (by omega)
  simpa [rdOf] using h2
theorem Sat.rowPut (h : Sat w0 w (Row (Kd.int k) e (.slice (some ⟨gb, 0, none⟩) xs.length cap) xs :: L)) (i : Nat) (x : Int) : Sat w0 (w.setCell ⟨gb, i, none⟩ (.int k x)) (Row (Kd.int k) e (.slice (some ⟨gb, 0, none⟩) xs.length cap) (xs.set i x) :: L) := by
  have hb := h.below
  refine h.turn (fun G hG hGB => ?_)
  have h2 := (Kd.R_put hG (i : Int) x).1
  rw [Int.toNat_natCast] at h2
  have hg := hG.1 gb rfl
  have hgb := hGB gb hg
  exact ⟨G, h2, hb.setCell (p := ⟨gb, i, none⟩) hgb.1 _, by simp [World.setCell], fun j _ hn => Below.heap_setCell w ⟨gb, i, none⟩ _ j (fun e => hn (by rw [e]; exact hg)), fun j hj => ⟨.inl hj, by simpa [World.setCell] using (hGB j hj).2⟩⟩
end
section
variable {P : Program} {ops : Array Oper} {rest : List Oper} {o : Oper} {a : Act} {Q : Exit → Act → World → Prop} {α : Type}
/-- append(v, p), behind 'at_builtin'; p's cells need no other block. -/
theorem Sat.append (d : Kd α) {w0 W : World} {L : List Asn} (hgd : o.guard = none) (s x : Operand) (t e : TypeId) (z : Value) (bytes : Nat)
    (ho : o.op = .call { callee := .builtin .append, args := #[s, x], argTypes := #[t, t] })
    (ht : P.underlying t = some (.slice e)) (hinfo : (P.info? e).map (fun i => (i.zero, i.size, i.bytes)) = some (some z, d.sz, bytes)) (hz : z.cells.size = d.sz) (hs0 : 0 < d.sz) (hb0 : 0 < bytes)
    (v : Value) (xs : List α) (p : α) (cs : List Value) (hs : a.eval s = v) (hx : a.eval x = .slice (some ⟨W.heap.size, 0, none⟩) 1 1) (hp : d.M W w0.heap.size (fun _ => False) p cs)
    (HS : Sat w0 W (Row d e v xs :: L)) (hl : (xs.length + 1) * bytes ≤ 140737488355328)
    (h : ∀ v1 w1, Sat w0 w1 (Row d e v1 (xs ++ [p]) :: L) → W.heap.size ≤ w1.heap.size → wpList P ops Q rest (a.put o.dst v1) w1) :
    wpList P ops Q (o :: rest) a (W.alloc (.cells cs.toArray e)) := by
  obtain ⟨G, h1, h2, h3⟩ := HS.seps
  refine Kd.R_append d w0.heap.size hgd s x t e z bytes ho ht hinfo hz hs0 hb0 v xs p cs (fun k => G k ∨ W.heap.size ≤ k) (fun _ => False) hs hx hp (fun _ hk => hk.elim) (fun _ hk => .inr hk)
    (Kd.R_mono h1 (fun _ hk => .inl hk)) HS.below HS.size hl ?_
  intro v1 w1 hR hB hg _
  exact h v1 w1 (Sat.grew HS.below h2 h3 hR hB hg (fun k hk => h1.1 k hk)) hg.size
/-- append(v, p) of whole numbers. -/
theorem Sat.appendInt {w0 W : World} {L : List Asn} (hgd : o.guard = none) (s x : Operand) (t e : TypeId) (k : IntKind) (bytes : Nat)
    (ho : o.op = .call { callee := .builtin .append, args := #[s, x], argTypes := #[t, t] })
    (ht : P.underlying t = some (.slice e)) (hinfo : (P.info? e).map (fun i => (i.zero, i.size, i.bytes)) = some (some (.int k 0), 1, bytes)) (hb0 : 0 < bytes)
    (v : Value) (xs : List Int) (p : Int) (hs : a.eval s = v) (hx : a.eval x = .slice (some ⟨W.heap.size, 0, none⟩) 1 1)
    (HS : Sat w0 W (Row (Kd.int k) e v xs :: L)) (hl : (xs.length + 1) * bytes ≤ 140737488355328)
    (h : ∀ v1 w1, Sat w0 w1 (Row (Kd.int k) e v1 (xs ++ [p]) :: L) → W.heap.size ≤ w1.heap.size → wpList P ops Q rest (a.put o.dst v1) w1) :
    wpList P ops Q (o :: rest) a (W.alloc (.cells #[.int k p] e)) :=
  Sat.append (Kd.int k) hgd s x t e (.int k 0) bytes ho ht hinfo rfl (Nat.zero_lt_one) hb0 v xs p [.int k p] hs hx rfl HS hl h
end

section
variable {α β : Type} {d : Kd α} {d' : Kd β} {e e' : Nat} {v : Value} {xs : List α} {w0 w : World} {L : List Asn}
/-- A printed function that may write the row, and keeps all else that was there. -/
theorem Sat.viaKept (h : Sat w0 w (Row d e v xs :: L)) : ∃ G : Nat → Prop, d.R e w w0.heap.size G v xs ∧ (∀ k, G k → w0.heap.size ≤ k ∧ k < w.heap.size) ∧
    ∀ (w' : World) (v1 : Value) (ys : List β), d'.R e' w' w0.heap.size (fun k => G k ∨ w.heap.size ≤ k) v1 ys → Below w0.heap.size w0 w' → Kept w w' G → Sat w0 w' (Row d' e' v1 ys :: L) := by
  have h0s := h.size
  obtain ⟨G, h1, h2, h3⟩ := h.seps
  refine ⟨G, h1, h2, fun w' v1 ys hR hb hk => ?_⟩
  refine ⟨hb, fun k => (G k ∨ w.heap.size ≤ k) ∧ k < w'.heap.size, Kd.R_mono (Kd.R_bound hR) (fun k hk => ⟨hk.1, hk.2.2.1⟩), fun k hk => ⟨?_, hk.2⟩, (h3.loc (fun k hk' => hk.2 k hk'.1.2 hk'.2)).mono (fun k hk' => ⟨⟨hk'.1.1, Nat.lt_of_lt_of_le hk'.1.2 hk.1⟩, fun hk2 => ?_⟩)⟩
  · rcases hk.1 with h | h
    · exact (h2 k h).1
    · exact Nat.le_trans h0s h
  · rcases hk2.1 with h | h
    · exact hk'.2 h
    · have := hk'.1.2
      omega
theorem Sat.toString {P : Program} {src dst t : TypeId} {xs : List Int} (hs : P.underlying src = some (.slice t)) (he : P.underlying t = some (.int .u8)) (hd : P.underlying dst = some .string) (h : Sat w0 w (Row (Kd.int .u8) e v xs :: L)) :
    (convert src dst v).run P w = .ok (.string (strOfNums xs)) w := by
  obtain ⟨G, h1, _⟩ := h.get
  exact own_string hs he hd (Kd.own_of_R h1)
end

/-- '[]T{}'. -/
theorem Sat.emptyRow {α : Type} {w0 w : World} {L : List Asn} (d : Kd α) (e : Nat) (h : Sat w0 w L) : Sat w0 (w.alloc (.cells #[] e)) (Row d e (.slice (some ⟨w.heap.size, 0, none⟩) 0 0) ([] : List α) :: L) := by
  refine h.push (below_alloc (Below.refl _ _) _) (G' := fun k => k = w.heap.size) ⟨fun k hk => ?_, [], ?_, Reps.none _ _⟩ (fun k hk => by subst hk; simp)
  · have : w.heap.size = k := by simpa [Value.ownBlock] using hk
    exact this.symm
  · simpa using World.ownsRow_lit (base := w0.heap.size) (e := e) (size := d.sz) w #[] 0 h.size (by simp [maxLen]) (by simp)
end Go.Proofs.Ytpjljhiohimgcaa.Sl
namespace Go.Proofs.Ytpjljhiohimgcaa.Sl
open Go.RowKit Go.Proofs.YtpjljhiohimgcaaW.PrintWords Go.Proofs.YtpjljhiohimgcaaW.PrintLast Go.Proofs.YtpjljhiohimgcaaW.PrintMore
set_option linter.unusedVariables false
set_option linter.unusedSimpArgs false
section
variable {α : Type} {d : Kd α} {e : Nat} {v : Value} {xs : List α} {w0 w w' : World} {L : List Asn} {A : Option Addr} {n c : Nat}
theorem Sat.rowC (h : Sat w0 w (Row d e (.slice A n c) xs :: L)) : d.C w A xs.length xs := by
  obtain ⟨G, h1, _⟩ := h.get
  exact (Kd.R_reads' h1).2.2
theorem Sat.rowLen (h : Sat w0 w (Row d e (.slice A n c) xs :: L)) : n = xs.length ∧ n ≤ c := by
  obtain ⟨G, h1, _⟩ := h.get
  exact ⟨(Kd.R_reads' h1).1, (Kd.R_reads' h1).2.1⟩
theorem Sat.rowQC (h : Sat w0 w (RowQ d e (.slice A n c) xs :: L)) : d.C w A xs.length xs := by
  obtain ⟨G, h1, _⟩ := h.get
  exact (Kd.Q_reads' h1).2.2
end
section
variable {P : Program} {ops : Array Oper} {rest : List Oper} {o : Oper} {a : Act} {Q : Exit → Act → World → Prop}
/-- append(v, ys..) of whole numbers. -/
theorem Sat.appendInts {w0 W : World} {L : List Asn} (hgd : o.guard = none) (s x : Operand) (t e : TypeId) (k : IntKind) (bytes : Nat)
    (ho : o.op = .call { callee := .builtin .append, args := #[s, x], argTypes := #[t, t] })
    (ht : P.underlying t = some (.slice e)) (hinfo : (P.info? e).map (fun i => (i.zero, i.size, i.bytes)) = some (some (.int k 0), 1, bytes)) (hb0 : 0 < bytes)
    (v : Value) (xs ys : List Int) (A : Option Addr) (m c : Nat) (hs : a.eval s = v) (hx : a.eval x = .slice A m c)
    (HS : Sat w0 W (Row (Kd.int k) e v xs :: L)) (HR : Kd.C (Kd.int k) W A m ys) (hl : (xs.length + m) * bytes ≤ 140737488355328)
    (h : ∀ v1 w1, Sat w0 w1 (Row (Kd.int k) e v1 (xs ++ ys) :: L) → W.heap.size ≤ w1.heap.size → wpList P ops Q rest (a.put o.dst v1) w1) :
    wpList P ops Q (o :: rest) a W := by
  obtain ⟨G, h1, h2, h3⟩ := HS.seps
  refine Kd.R_append_rows (Kd.int k) w0.heap.size hgd s x t e (.int k 0) bytes ho ht hinfo rfl (Nat.zero_lt_one) hb0 v xs ys A m c (fun k => G k ∨ W.heap.size ≤ k) (fun _ => False) hs hx
    (Kd.R_mono h1 (fun _ hk => .inl hk)) HR (fun _ _ h => h) (fun _ hk => hk.elim) (fun _ hk => .inr hk) HS.below HS.size hl ?_
  intro v1 w1 hR hB hg _
  exact h v1 w1 (Sat.grew HS.below h2 h3 hR hB hg (fun k hk => h1.1 k hk)) hg.size
end
section
variable {α β : Type} {d : Kd α} {d' : Kd β} {e e' : Nat} {v : Value} {xs : List α} {w0 w : World} {L : List Asn}
theorem Sat.rowQSome (h : Sat w0 w (RowQ d e v xs :: L)) : ∃ A c, v = .slice A xs.length c ∧ xs.length ≤ c := by
  obtain ⟨G, h1, _⟩ := h.get
  exact Kd.Q_slice h1
/-- A printed function that reads a cut row and hands back a part of it. -/
theorem Sat.viaKeptQ (h : Sat w0 w (RowQ d e v xs :: L)) : ∃ G : Nat → Prop, d.Q e w w0.heap.size G v xs ∧ (∀ k, G k → w0.heap.size ≤ k ∧ k < w.heap.size) ∧
    ∀ (w' : World) (v1 : Value) (ys : List β), d'.Q e' w' w0.heap.size (fun k => G k ∨ w.heap.size ≤ k) v1 ys → Below w0.heap.size w0 w' → Kept w w' G → Sat w0 w' (RowQ d' e' v1 ys :: L) := by
  have h0s := h.size
  obtain ⟨G, h1, h2, h3⟩ := h.seps
  refine ⟨G, h1, h2, fun w' v1 ys hR hb hk => ?_⟩
  refine ⟨hb, fun k => (G k ∨ w.heap.size ≤ k) ∧ k < w'.heap.size, Kd.Q_mono (Kd.Q_bound hR) (fun k hk => ⟨hk.1, hk.2.2.1⟩), fun k hk => ⟨?_, hk.2⟩, (h3.loc (fun k hk' => hk.2 k hk'.1.2 hk'.2)).mono (fun k hk' => ⟨⟨hk'.1.1, Nat.lt_of_lt_of_le hk'.1.2 hk.1⟩, fun hk2 => ?_⟩)⟩
  · rcases hk.1 with h | h
    · exact (h2 k h).1
    · exact Nat.le_trans h0s h
  · rcases hk2.1 with h | h
    · exact hk'.2 h
    · have := hk'.1.2
      omega
/-- A row of numbers that came in: it stands in whatever world keeps its blocks. -/
theorem C_intF {k : IntKind} {w : World} {A : Option Addr} {n : Nat} {l : List Int} (h : (Kd.int k).C w A n l) : Kd.F (Kd.int k) w (fun _ => True) A n l := fun W' hW => ⟨h.1, h.2.1, fun hn => by
  obtain ⟨ad, e, hc⟩ := h.2.2 hn
  refine ⟨ad, e, fun j p hp => ?_⟩
  obtain ⟨c, hs, hr, hcell⟩ := hc j p hp
  refine ⟨c, hs, hr, fun i u hu => ?_⟩
  have hw := hcell i u hu
  have hlt : (ad.add (j * (Kd.int k).sz + i)).block < w.heap.size := by
    unfold World.cell? at hw
    split at hw
    · rename_i heq
      exact (Array.getElem?_eq_some_iff.1 heq).1
    · cases hw
  unfold World.cell? at hw ⊢
  rw [hW _ trivial hlt]
  exact hw⟩
end
end Go.Proofs.Ytpjljhiohimgcaa.Sl
