/- A disk in plain words: files by rising names, what is pending, the power.
   Plain words for a walk's memory: what blocks a call owns, told as a list of assertions, no two of which speak of one block. -/
import Derived.Maps.OwnSet
import Derived.Maps.Ext
import Derived.Test.YtlngljhinboglaaWKept
import Derived.Test.YtlngljhinboglaaWMore
import Derived.OneCell
namespace Go.Proofs.Ytlngljhinboglaa.DkP
set_option linter.unusedVariables false
set_option linter.unusedSimpArgs false
abbrev Nm := List UInt8
abbrev FS (β : Type) := List (Nm × β)
section
variable {β γ : Type}
def ins (x : Nm × β) : FS β → FS β
  | [] => [x]
  | y :: r => if bytesBefore x.1 y.1 then x :: y :: r else y :: ins x r
def del (k : Nm) (l : FS β) : FS β := l.filter fun p => !(p.1 == k)
def put (k : Nm) (v : β) (l : FS β) : FS β := ins (k, v) (del k l)
def get (k : Nm) (l : FS β) : Option β := (l.find? fun p => p.1 == k).map (·.2)
def mv (f : β → γ) (l : FS β) : FS γ := l.map fun p => (p.1, f p.2)
theorem mv_ins (f : β → γ) (x : Nm × β) : ∀ l : FS β, mv f (ins x l) = ins (x.1, f x.2) (mv f l)
  | [] => rfl
  | y :: r => by
    rw [ins]
    show mv f (if bytesBefore x.1 y.1 = true then x :: y :: r else y :: ins x r) = if bytesBefore x.1 y.1 = true then (x.1, f x.2) :: (y.1, f y.2) :: mv f r else (y.1, f y.2) :: ins (x.1, f x.2) (mv f r)
    split
    · rfl
    · rw [← mv_ins f x r]; rfl
theorem mv_del (f : β → γ) (k : Nm) (l : FS β) : mv f (del k l) = del k (mv f l) := by
  unfold mv del
  rw [List.filter_map]
  rfl
theorem mv_put (f : β → γ) (k : Nm) (v : β) (l : FS β) : mv f (put k v l) = put k (f v) (mv f l) := by
  unfold put
  rw [mv_ins, mv_del]
theorem get_mv (f : β → γ) (k : Nm) (l : FS β) : get k (mv f l) = (get k l).map f := by
  unfold get mv
  rw [List.find?_map]
  simp only [Option.map_map]
  rfl
theorem mem_ins {x z : Nm × β} : ∀ {l : FS β}, z ∈ ins x l ↔ z = x ∨ z ∈ l
  | [] => by simp [ins]
  | y :: r => by
    rw [ins]
    split
    · simp
    · rw [List.mem_cons, mem_ins (l := r), List.mem_cons]
      exact ⟨fun h => h.elim (fun h => .inr (.inl h)) (fun h => h.elim .inl fun h => .inr (.inr h)), fun h => h.elim (fun h => .inr (.inl h)) (fun h => h.elim .inl fun h => .inr (.inr h))⟩
theorem mem_del {z : Nm × β} {k : Nm} {l : FS β} (h : z ∈ del k l) : z ∈ l ∧ z.1 ≠ k := by
  obtain ⟨h1, h2⟩ := List.mem_filter.1 h
  exact ⟨h1, by simpa using h2⟩
theorem mem_put {z : Nm × β} {k : Nm} {v : β} {l : FS β} (h : z ∈ put k v l) : z = (k, v) ∨ z ∈ l := (mem_ins.1 h).imp id fun h => (mem_del h).1
theorem get_mem {k : Nm} {v : β} {l : FS β} (h : get k l = some v) : (k, v) ∈ l := by
  unfold get at h
  obtain ⟨p, h1, rfl⟩ := Option.map_eq_some_iff.1 h
  have h2 := List.find?_some h1
  have h3 := List.mem_of_find?_eq_some h1
  have : p.1 = k := by simpa using h2
  subst this
  exact h3
theorem ins_length (x : Nm × β) : ∀ l : FS β, (ins x l).length = l.length + 1
  | [] => rfl
  | y :: r => by
    rw [ins]
    split
    · simp
    · simp [ins_length x r]
theorem del_length (k : Nm) (l : FS β) : (del k l).length ≤ l.length := List.length_filter_le _ _
theorem put_length (k : Nm) (v : β) (l : FS β) : (put k v l).length ≤ l.length + 1 := by
  unfold put
  rw [ins_length]
  have := del_length k l
  omega
/-- Names rise. -/
def Rising (l : FS β) : Prop := l.Pairwise fun p q => bytesBefore p.1 q.1 = true
theorem before_irrefl : ∀ a : Nm, bytesBefore a a = false
  | [] => rfl
  | a :: r => by simp [bytesBefore, before_irrefl r]
theorem before_trans : ∀ {a b c : Nm}, bytesBefore a b = true → bytesBefore b c = true → bytesBefore a c = true
  | [], [], _, h, _ => by simp [bytesBefore] at h
  | [], _ :: _, [], _, h => by simp [bytesBefore] at h
  | [], _ :: _, _ :: _, _, _ => rfl
  | _ :: _, [], _, h, _ => by simp [bytesBefore] at h
  | _ :: _, _ :: _, [], _, h => by simp [bytesBefore] at h
  | x :: a, y :: b, z :: c, h1, h2 => by
    simp only [bytesBefore, Bool.or_eq_true, Bool.and_eq_true, decide_eq_true_eq, beq_iff_eq] at h1 h2 ⊢
    rcases h1 with h1 | ⟨rfl, h1⟩
    · rcases h2 with h2 | ⟨rfl, h2⟩
      · exact .inl (UInt8.lt_trans h1 h2)
      · exact .inl h1
    · rcases h2 with h2 | ⟨rfl, h2⟩
      · exact .inl h2
      · exact .inr ⟨rfl, before_trans h1 h2⟩
theorem before_total : ∀ {a b : Nm}, a ≠ b → bytesBefore a b = false → bytesBefore b a = true
  | [], [], h, _ => absurd rfl h
  | [], _ :: _, _, h => by simp [bytesBefore] at h
  | _ :: _, [], _, _ => rfl
  | x :: a, y :: b, h, h1 => by
    simp only [bytesBefore, Bool.or_eq_false_iff, Bool.and_eq_false_iff, decide_eq_false_iff_not, beq_eq_false_iff_ne, Bool.or_eq_true, Bool.and_eq_true, decide_eq_true_eq, beq_iff_eq] at h1 ⊢
    obtain ⟨h1, h2⟩ := h1
    by_cases e : x = y
    · subst e
      refine .inr ⟨rfl, before_total (fun e => h (by rw [e])) (h2.resolve_left (fun h => h rfl))⟩
    · left
      rcases Nat.lt_trichotomy x.toNat y.toNat with g | g | g
      · exact absurd (UInt8.lt_iff_toNat_lt.2 g) h1
      · exact absurd (UInt8.toNat_inj.1 g) e
      · exact UInt8.lt_iff_toNat_lt.2 g
theorem Rising.del {l : FS β} (h : Rising l) (k : Nm) : Rising (del k l) := List.Pairwise.filter _ h
theorem Rising.ins {x : Nm × β} : ∀ {l : FS β}, Rising l → (∀ p ∈ l, p.1 ≠ x.1) → Rising (ins x l)
  | [], _, _ => List.pairwise_singleton _ _
  | y :: r, h, hx => by
    obtain ⟨h1, h2⟩ := List.pairwise_cons.1 h
    rw [DkP.ins]
    split
    · rename_i c
      refine List.pairwise_cons.2 ⟨fun p hp => ?_, h⟩
      rcases List.mem_cons.1 hp with rfl | hp
      · exact c
      · exact before_trans c (h1 p hp)
    · rename_i c
      refine List.pairwise_cons.2 ⟨fun p hp => ?_, Rising.ins h2 fun p hp => hx p (List.mem_cons_of_mem _ hp)⟩
      rcases mem_ins.1 hp with rfl | hp
      · exact before_total (fun e => hx y (List.mem_cons_self ..) e.symm) (by simpa using c)
      · exact h1 p hp
theorem Rising.put {l : FS β} (h : Rising l) (k : Nm) (v : β) : Rising (put k v l) := (h.del k).ins fun _ hp => (mem_del hp).2
theorem Rising.mv {l : FS β} (h : Rising l) (f : β → γ) : Rising (mv f l) := List.pairwise_map.2 h
theorem get_ins_hit {k : Nm} {v : β} : ∀ {l : FS β}, (∀ p ∈ l, p.1 ≠ k) → get k (ins (k, v) l) = some v
  | [], _ => by simp [ins, get]
  | y :: r, h => by
    rw [ins]
    split
    · simp [get]
    · have := get_ins_hit (v := v) (l := r) fun p hp => h p (List.mem_cons_of_mem _ hp)
      unfold get at this ⊢
      rw [List.find?_cons_of_neg (by simpa using h y (List.mem_cons_self ..))]
      exact this
theorem get_ins_miss {k k' : Nm} {v : β} (hne : k ≠ k') : ∀ {l : FS β}, get k' (ins (k, v) l) = get k' l
  | [] => by simp [ins, get, hne]
  | y :: r => by
    rw [ins]
    split
    · simp [get, hne]
    · have := get_ins_miss (v := v) hne (l := r)
      unfold get at this ⊢
      by_cases hy : y.1 = k'
      · simp [hy]
      · rw [List.find?_cons_of_neg (by simpa using hy), List.find?_cons_of_neg (by simpa using hy)]
        exact this
theorem get_del_same {k : Nm} {l : FS β} : get k (del k l) = none := by
  unfold get del
  rw [Option.map_eq_none_iff, List.find?_eq_none]
  intro p hp
  simpa using (mem_del hp).2
theorem get_del_other {k k' : Nm} (hne : k ≠ k') {l : FS β} : get k' (del k l) = get k' l := by
  unfold get del
  congr 1
  induction l with
  | nil => rfl
  | cons y r ih =>
    by_cases hy : y.1 = k
    · rw [List.filter_cons_of_neg (by simpa using hy), ih, List.find?_cons_of_neg (by rw [hy]; simpa using hne)]
    · rw [List.filter_cons_of_pos (by simpa using hy)]
      by_cases hk : y.1 = k'
      · simp [hk]
      · rw [List.find?_cons_of_neg (by simpa using hk), List.find?_cons_of_neg (by simpa using hk), ih]
theorem get_put_same {k : Nm} {v : β} {l : FS β} : get k (put k v l) = some v := get_ins_hit fun _ hp => (mem_del hp).2
theorem get_put_other {k k' : Nm} (hne : k ≠ k') {v : β} {l : FS β} : get k' (put k v l) = get k' l := by
  unfold put
  rw [get_ins_miss hne, get_del_other hne]
theorem del_of_none {k : Nm} {l : FS β} (h : get k l = none) : del k l = l := by
  unfold get at h
  rw [Option.map_eq_none_iff, List.find?_eq_none] at h
  unfold del
  rw [List.filter_eq_self]
  intro p hp
  simpa using h p hp
/-- All the bytes. -/
def tot : FS (List UInt8) → Nat
  | [] => 0
  | p :: r => p.2.length + tot r
theorem tot_ins (x : Nm × List UInt8) : ∀ l, tot (ins x l) = x.2.length + tot l
  | [] => rfl
  | y :: r => by
    rw [ins]
    split
    · rfl
    · rw [tot, tot_ins x r, tot]; omega
theorem tot_del {k : Nm} : ∀ {l : FS (List UInt8)}, Rising l → tot (del k l) + ((get k l).getD []).length = tot l
  | [], _ => rfl
  | y :: r, h => by
    obtain ⟨h1, h2⟩ := List.pairwise_cons.1 h
    have ih := tot_del (k := k) h2
    by_cases hy : y.1 = k
    · have hn : get k r = none := by
        unfold get
        rw [Option.map_eq_none_iff, List.find?_eq_none]
        intro p hp
        have := h1 p hp
        simp only [beq_iff_eq]
        rintro rfl
        rw [hy, before_irrefl] at this
        cases this
      rw [hn] at ih
      have e : del k (y :: r) = del k r := List.filter_cons_of_neg (by simpa using hy)
      have e2 : get k (y :: r) = some y.2 := by simp [get, hy]
      rw [e, e2, tot]
      simp only [Option.getD_some, Option.getD_none, List.length_nil] at ih ⊢
      omega
    · have e : del k (y :: r) = y :: del k r := List.filter_cons_of_pos (by simpa using hy)
      have e2 : get k (y :: r) = get k r := by
        unfold get
        rw [List.find?_cons_of_neg (by simpa using hy)]
      rw [e, e2, tot, tot]
      omega
theorem tot_put {k : Nm} {v : List UInt8} {l : FS (List UInt8)} (h : Rising l) : tot (put k v l) + ((get k l).getD []).length = tot l + v.length := by
  unfold put
  rw [tot_ins]
  have := tot_del (k := k) h
  simp only
  omega
end
/-! As the kit's maps have it. -/
def mapD (l : FS Value) : DataW Value := .map (l.map fun p => (.string p.1, .held p.2))
theorem mapD_insert (k : Nm) (v : Value) : ∀ l : FS Value, DataW.insert ((.string k : Lit), (.held v : DataW Value)) (l.map fun p => (.string p.1, .held p.2)) = (ins (k, v) l).map fun p => (.string p.1, .held p.2)
  | [] => rfl
  | y :: r => by
    rw [ins, List.map_cons, DataW.insert]
    show (if bytesBefore k y.1 = true then _ else _) = _
    split
    · rfl
    · rw [mapD_insert k v r]; rfl
theorem mapD_filter (k : Nm) (l : FS Value) : (l.map fun p => ((.string p.1 : Lit), (.held p.2 : DataW Value))).filter (fun p => !p.1.sameKey (.string k)) = (del k l).map fun p => (.string p.1, .held p.2) := by
  unfold del
  rw [List.filter_map]
  rfl
theorem mapD_put (k : Nm) (v : Value) (l : FS Value) : (mapD l).put (.string k) (.held v) = mapD (put k v l) := by
  unfold mapD DataW.put put
  simp only
  rw [mapD_filter, mapD_insert]
theorem mapD_del (k : Nm) (l : FS Value) : (mapD l).del (.string k) = mapD (del k l) := by
  unfold mapD DataW.del
  simp only
  rw [mapD_filter]
theorem mapD_find (k : Nm) (l : FS Value) : (l.map fun p => ((.string p.1 : Lit), (.held p.2 : DataW Value))).find? (fun p => p.1.sameKey (.string k)) = (l.find? fun p => p.1 == k).map fun p => (.string p.1, .held p.2) := by
  rw [List.find?_map]
  rfl
theorem mapD_at (k : Nm) (l : FS Value) (z : DataW Value) : (mapD l).atKey (.string k) z = match get k l with | some v => .held v | none => z := by
  unfold mapD DataW.atKey get
  simp only
  rw [mapD_find]
  cases l.find? fun p => p.1 == k <;> rfl
theorem mapD_has (k : Nm) (l : FS Value) : Maps.has (mapD l) (.string k) = (get k l).isSome := by
  unfold mapD get
  rw [Maps.has_eq, List.any_map]
  have : ((fun p : Lit × DataW Value => p.1.sameKey (.string k)) ∘ fun p : Nm × Value => ((.string p.1 : Lit), (.held p.2 : DataW Value))) = fun p => p.1 == k := rfl
  rw [this, Option.isSome_map, Bool.eq_iff_iff, List.any_eq_true, List.find?_isSome]
/-! What is pending, and what it does. -/
inductive Ch where
  | app (a s : ByteArray)
  | ren (a b : ByteArray)
  | rem (a : ByteArray)
def Ch.size : Ch → Nat
  | .app _ s => s.size
  | _ => 0
def Ch.isApp : Ch → Bool
  | .app _ _ => true
  | _ => false
abbrev Cnt := List UInt8
def nm (a : ByteArray) : Nm := a.data.toList
def Ch.go (c : Ch) (n : Nat) (l : FS Cnt) : FS Cnt := match c with
  | .app a s => put (nm a) ((get (nm a) l).getD [] ++ s.data.toList.take n) l
  | .ren a b => put (nm b) ((get (nm a) l).getD []) (del (nm a) l)
  | .rem a => del (nm a) l
theorem Ch.go_rising (c : Ch) (n : Nat) {l : FS Cnt} (h : Rising l) : Rising (c.go n l) := by
  cases c with
  | app a s => exact h.put _ _
  | ren a b => exact (h.del _).put _ _
  | rem a => exact h.del _
theorem Ch.go_length (c : Ch) (n : Nat) (l : FS Cnt) : (c.go n l).length ≤ l.length + 1 := by
  cases c with
  | app a s => exact put_length _ _ _
  | ren a b => exact Nat.le_trans (put_length _ _ _) (by have := del_length (nm a) l; omega)
  | rem a => exact Nat.le_trans (del_length _ _) (Nat.le_succ _)
/-- What a crash leaves: the first keep of what is pending, and a part of the next. -/
def crashF (keep part : Int) : Nat → List Ch → FS Cnt → FS Cnt
  | _, [], l => l
  | i, c :: r, l => if (i : Int) < keep then crashF keep part (i + 1) r (c.go c.size l) else if c.isApp = true ∧ 0 < part then c.go (min part (c.size : Int)).toNat l else l
structure DS where
  room : Int
  files : FS Cnt
  lasting : FS Cnt
  pend : List Ch
  ops : Int
  left : Int
  keep : Int
  part : Int
  dead : Bool
def DS.crash (d : DS) (keep part : Int) : DS := if d.dead = true then d else
  let f := crashF keep part 0 d.pend d.lasting
  { d with files := f, lasting := f, pend := [], left := -1, dead := true }
/-- The power's part of a call: the disk behind it, and whether it may be. -/
def DS.rawD (d : DS) : DS := if d.left = 0 then d.crash d.keep d.part else d
def DS.raw (d : DS) : DS × Int := let e := d.rawD
  if e.dead = true then (e, 13) else ({ e with left := if 0 < e.left then e.left - 1 else e.left, ops := e.ops + 1 }, 0)
def DS.change (d : DS) (c : Ch) : DS × Int := let r := d.raw
  if r.2 = 0 then ({ r.1 with pend := r.1.pend ++ [c], files := c.go c.size r.1.files }, 0) else r
def fits (a : ByteArray) : Bool := decide (0 < a.size ∧ a.size ≤ 40)
def DS.append (d : DS) (a s : ByteArray) : DS × Int := if fits a = false then (d, 10) else if d.room < (tot d.files : Int) + s.size then (d, 12) else d.change (.app a s)
def DS.rename (d : DS) (a b : ByteArray) : DS × Int := if fits a = false ∨ fits b = false then (d, 10) else if get (nm a) d.files = none then (d, 11) else d.change (.ren a b)
def DS.remove (d : DS) (a : ByteArray) : DS × Int := if fits a = false then (d, 10) else if get (nm a) d.files = none then (d, 11) else d.change (.rem a)
def DS.sync (d : DS) : DS × Int := let r := d.raw
  if r.2 = 0 then ({ r.1 with pend := [], lasting := r.1.files }, 0) else r
def DS.new (room : Int) : DS := ⟨max room 0, [], [], [], 0, -1, 0, 0, false⟩
def DS.cut (d : DS) (n keep part : Int) : DS := { d with left := max n 0, keep := keep, part := part }
def DS.power (d : DS) : DS := { d with dead := false, left := -1 }
end Go.Proofs.Ytlngljhinboglaa.DkP
namespace Go.Proofs.Ytlngljhinboglaa.Sl
open Go.RowKit Go.Proofs.YtlngljhinboglaaW.PrintWords Go.Proofs.YtlngljhinboglaaW.PrintLast Go.Proofs.YtlngljhinboglaaW.PrintMore
set_option linter.unusedVariables false
set_option linter.unusedSimpArgs false

/-- An assertion on a world (B: where the call's own blocks begin) and on the blocks that it may speak of. -/
structure Asn where
  p : Nat → World → (Nat → Prop) → Prop
  loc : ∀ {B : Nat} {w w' : World} {F : Nat → Prop}, p B w F → (∀ k, F k → w'.heap[k]? = w.heap[k]?) → p B w' F

def Seps (B : Nat) (w : World) : List Asn → (Nat → Prop) → Prop
  | [], _ => True
  | A :: L, F => ∃ G : Nat → Prop, A.p B w G ∧ (∀ k, G k → F k) ∧ Seps B w L (fun k => F k ∧ ¬ G k)

section
variable {B : Nat} {w w' : World}
theorem Seps.mono : ∀ {L : List Asn} {F F' : Nat → Prop}, Seps B w L F → (∀ k, F k → F' k) → Seps B w L F'
  | [], _, _, _, _ => trivial
  | _ :: _, _, _, ⟨G, h1, h2, h3⟩, hF => ⟨G, h1, fun k hk => hF k (h2 k hk), h3.mono (fun k hk => ⟨hF k hk.1, hk.2⟩)⟩
theorem Seps.loc : ∀ {L : List Asn} {F : Nat → Prop}, Seps B w L F → (∀ k, F k → w'.heap[k]? = w.heap[k]?) → Seps B w' L F
  | [], _, _, _ => trivial
  | A :: _, _, ⟨G, h1, h2, h3⟩, hw => ⟨G, A.loc h1 (fun k hk => hw k (h2 k hk)), h2, h3.loc (fun k hk => hw k hk.1)⟩
theorem Seps.swap {A A' : Asn} {L : List Asn} {F : Nat → Prop} : Seps B w (A :: A' :: L) F → Seps B w (A' :: A :: L) F := by
  rintro ⟨G, h1, h2, G', h3, h4, h5⟩
  exact ⟨G', h3, fun k hk => (h4 k hk).1, G, h1, fun k hk => ⟨h2 k hk, fun hk' => (h4 k hk').2 hk⟩, h5.mono (fun k hk => ⟨⟨hk.1.1, hk.2⟩, hk.1.2⟩)⟩
theorem Seps.nth {A : Asn} : ∀ (i : Nat) {L : List Asn} {F : Nat → Prop}, Seps B w L F → L[i]? = some A → Seps B w (A :: L.eraseIdx i) F
  | 0, [], _, _, h => by cases h
  | 0, A' :: L, F, h, e => by
    have e' : A' = A := by simpa using e
    subst e'
    exact h
  | i + 1, [], _, _, h => by simp at h
  | i + 1, A' :: L, F, ⟨G, h1, h2, h3⟩, e => by
    have h4 := Seps.nth i h3 (by simpa using e)
    exact Seps.swap ⟨G, h1, h2, h4⟩
theorem Seps.tail {A : Asn} {L : List Asn} {F : Nat → Prop} : Seps B w (A :: L) F → Seps B w L F := fun ⟨_, _, _, h⟩ => h.mono (fun _ hk => hk.1)
theorem Seps.app : ∀ {L1 L : List Asn} {F G : Nat → Prop}, Seps B w L1 G → (∀ k, G k → F k) → Seps B w L (fun k => F k ∧ ¬ G k) → Seps B w (L1 ++ L) F
  | [], _, _, _, _, _, h => h.mono (fun _ hk => hk.1)
  | A :: L1, L, F, G, ⟨G1, h1, h2, h3⟩, hG, h => ⟨G1, h1, fun k hk => hG k (h2 k hk), Seps.app h3 (fun k hk => ⟨hG k hk.1, hk.2⟩) (h.mono (fun k hk => ⟨⟨hk.1, fun hk' => hk.2 (h2 k hk')⟩, fun hk' => hk.2 hk'.1⟩))⟩
theorem Seps.unapp : ∀ {L1 L : List Asn} {F : Nat → Prop}, Seps B w (L1 ++ L) F → ∃ G : Nat → Prop, Seps B w L1 G ∧ (∀ k, G k → F k) ∧ Seps B w L (fun k => F k ∧ ¬ G k)
  | [], _, _, h => ⟨fun _ => False, trivial, fun _ hk => hk.elim, h.mono (fun _ hk => ⟨hk, fun h => h⟩)⟩
  | A :: L1, L, F, ⟨G1, h1, h2, h3⟩ => by
    obtain ⟨G2, h4, h5, h6⟩ := Seps.unapp h3
    refine ⟨fun k => G1 k ∨ G2 k, ⟨G1, h1, fun k hk => .inl hk, h4.mono (fun k hk => ⟨.inr hk, (h5 k hk).2⟩)⟩, fun k hk => hk.elim (h2 k) (fun h => (h5 k h).1), h6.mono (fun k hk => ⟨hk.1.1, fun h => h.elim hk.1.2 hk.2⟩)⟩
end

/-- The call's own memory: nothing of what lay there before has turned (w0), and all of L holds, each of blocks of its own. -/
structure Sat (w0 w : World) (L : List Asn) : Prop where
  below : Below w0.heap.size w0 w
  seps : Seps w0.heap.size w L (fun k => w0.heap.size ≤ k ∧ k < w.heap.size)

section
variable {w0 w w' : World} {L L1 : List Asn} {A A' : Asn}
theorem Sat.start (w : World) : Sat w w [] := ⟨Below.refl _ _, trivial⟩
theorem Sat.nth (h : Sat w0 w L) (i : Nat) (e : L[i]? = some A) : Sat w0 w (A :: L.eraseIdx i) := ⟨h.below, h.seps.nth i e⟩
theorem Sat.tail (h : Sat w0 w (A :: L)) : Sat w0 w L := ⟨h.below, h.seps.tail⟩
theorem Sat.size (h : Sat w0 w L) : w0.heap.size ≤ w.heap.size := h.below.size
/-- A step that touches no block of the call's. -/
theorem Sat.step (h : Sat w0 w L) (hb : Below w.heap.size w w') : Sat w0 w' L :=
  ⟨below_step h.below hb, (h.seps.loc (fun k hk => hb.block k hk.2)).mono (fun k hk => ⟨hk.1, Nat.lt_of_lt_of_le hk.2 hb.size⟩)⟩
theorem Sat.alloc (h : Sat w0 w L) (o : Obj) : Sat w0 (w.alloc o) L := h.step (below_alloc (Below.refl _ _) o)
theorem Sat.drewN (h : Sat w0 w L) (m : Nat) : Sat w0 (w.drewN m) L := h.step (pw_below_drewN (Below.refl _ _) m)
theorem Sat.drew (h : Sat w0 w L) : Sat w0 w.drew L := h.step (below_drew (Below.refl _ _))
/-- A step that touches the first assertion's blocks alone, and makes new ones. -/
theorem Sat.turn (h : Sat w0 w (A :: L)) (hs : ∀ G : Nat → Prop, A.p w0.heap.size w G → (∀ k, G k → w0.heap.size ≤ k ∧ k < w.heap.size) →
    ∃ G' : Nat → Prop, A'.p w0.heap.size w' G' ∧ Below w0.heap.size w0 w' ∧ w.heap.size ≤ w'.heap.size ∧ (∀ k, k < w.heap.size → ¬ G k → w'.heap[k]? = w.heap[k]?) ∧ (∀ k, G' k → (G k ∨ w.heap.size ≤ k) ∧ k < w'.heap.size)) : Sat w0 w' (A' :: L) := by
  obtain ⟨G, h1, h2, h3⟩ := h.seps
  obtain ⟨G', h4, h5, h6, h7, h8⟩ := hs G h1 h2
  refine ⟨h5, G', h4, fun k hk => ⟨?_, (h8 k hk).2⟩, (h3.loc (fun k hk => h7 k hk.1.2 hk.2)).mono (fun k hk => ⟨⟨hk.1.1, Nat.lt_of_lt_of_le hk.1.2 h6⟩, fun hk' => ?_⟩)⟩
  · rcases (h8 k hk).1 with hg | hg
    · exact (h2 k hg).1
    · exact Nat.le_trans h.size hg
  · rcases (h8 k hk').1 with hg | hg
    · exact hk.2 hg
    · have := hk.1.2
      omega
/-- A step that makes new blocks alone, and tells of them. -/
theorem Sat.push (h : Sat w0 w L) (hb : Below w.heap.size w w') {G' : Nat → Prop} (hA : A'.p w0.heap.size w' G') (hG : ∀ k, G' k → w.heap.size ≤ k ∧ k < w'.heap.size) : Sat w0 w' (A' :: L) :=
  ⟨below_step h.below hb, G', hA, fun k hk => ⟨Nat.le_trans h.size (hG k hk).1, (hG k hk).2⟩, (h.seps.loc (fun k hk => hb.block k hk.2)).mono (fun k hk => ⟨⟨hk.1, Nat.lt_of_lt_of_le hk.2 hb.size⟩, fun hk' => by have := (hG k hk').1; have := hk.2; omega⟩)⟩
/-- What the first assertion says, of other words. -/
theorem Sat.imp (h : Sat w0 w (A :: L)) (hs : ∀ G : Nat → Prop, A.p w0.heap.size w G → A'.p w0.heap.size w G) : Sat w0 w (A' :: L) := by
  obtain ⟨G, h1, h2, h3⟩ := h.seps
  exact ⟨h.below, G, hs G h1, h2, h3⟩
theorem Sat.get (h : Sat w0 w (A :: L)) : ∃ G : Nat → Prop, A.p w0.heap.size w G ∧ (∀ k, G k → w0.heap.size ≤ k ∧ k < w.heap.size) := by
  obtain ⟨G, h1, h2, _⟩ := h.seps
  exact ⟨G, h1, h2⟩
end

/-- Several at once. -/
def All (L : List Asn) : Asn := ⟨fun B w F => Seps B w L F, fun h hw => h.loc hw⟩
def Ex {α : Type} (f : α → Asn) : Asn := ⟨fun B w F => ∃ x, (f x).p B w F, fun ⟨x, h⟩ hw => ⟨x, (f x).loc h hw⟩⟩
def Fact (P : Prop) : Asn := ⟨fun _ _ _ => P, fun h _ => h⟩
section
variable {w0 w : World} {L L1 : List Asn} {A : Asn}
theorem Sat.opened (h : Sat w0 w (All L1 :: L)) : Sat w0 w (L1 ++ L) := by
  obtain ⟨G, h1, h2, h3⟩ := h.seps
  exact ⟨h.below, Seps.app h1 h2 h3⟩
theorem Sat.closed (h : Sat w0 w (L1 ++ L)) : Sat w0 w (All L1 :: L) := by
  obtain ⟨G, h1, h2, h3⟩ := Seps.unapp h.seps
  exact ⟨h.below, G, h1, h2, h3⟩
theorem Sat.some_ {α : Type} {f : α → Asn} (h : Sat w0 w (Ex f :: L)) : ∃ x, Sat w0 w (f x :: L) := by
  obtain ⟨G, ⟨x, h1⟩, h2, h3⟩ := h.seps
  exact ⟨x, h.below, G, h1, h2, h3⟩
theorem Sat.any {α : Type} {f : α → Asn} (x : α) (h : Sat w0 w (f x :: L)) : Sat w0 w (Ex f :: L) := h.imp (fun _ hg => ⟨x, hg⟩)
theorem Sat.fact {P : Prop} (h : Sat w0 w (Fact P :: L)) : P := by
  obtain ⟨G, h1, _⟩ := h.get
  exact h1
theorem Sat.put {P : Prop} (hp : P) (h : Sat w0 w L) : Sat w0 w (Fact P :: L) := ⟨h.below, fun _ => False, hp, fun _ hk => hk.elim, h.seps.mono (fun _ hk => ⟨hk, fun h => h⟩)⟩
end

/-- A block of cells. -/
def Blk (g : Nat) (cs : Array Value) (t : TypeId) : Asn := ⟨fun _ w F => F g ∧ w.heap[g]? = some (.cells cs t (0, 0)), fun h hw => ⟨h.1, (hw _ h.1).trans h.2⟩⟩
section
variable {w0 w : World} {L : List Asn} {g : Nat} {cs : Array Value} {t : TypeId}
theorem Sat.blk (h : Sat w0 w (Blk g cs t :: L)) : w.heap[g]? = some (.cells cs t (0, 0)) := by
  obtain ⟨G, h1, _⟩ := h.get
  exact h1.2
theorem Sat.ge (h : Sat w0 w (Blk g cs t :: L)) : w0.heap.size ≤ g := by
  obtain ⟨G, h1, h2⟩ := h.get
  exact (h2 g h1.1).1
theorem Sat.lt (h : Sat w0 w (Blk g cs t :: L)) : g < w.heap.size := by
  obtain ⟨G, h1, h2⟩ := h.get
  exact (h2 g h1.1).2
theorem Sat.cell (h : Sat w0 w (Blk g cs t :: L)) (j : Nat) {v : Value} (hv : cs[j]? = some v) : w.cell? ⟨g, j, none⟩ = some v := by
  have := h.blk
  simp [World.cell?, this, hv]
theorem Sat.free (h : Sat w0 w (Blk g cs t :: L)) (j : Nat) : w.frozen? ⟨g, j, none⟩ = false := by
  have := h.blk
  simp [World.frozen?, this]
theorem Sat.newBlk (h : Sat w0 w L) (cs : Array Value) (t : TypeId) : Sat w0 (w.alloc (.cells cs t)) (Blk w.heap.size cs t :: L) :=
  h.push (below_alloc (Below.refl _ _) _) (G' := fun k => k = w.heap.size) ⟨rfl, by simpa using heap_alloc_new w (.cells cs t)⟩ (fun k hk => by subst hk; simp)
theorem Sat.setBlk (h : Sat w0 w (Blk g cs t :: L)) (j : Nat) (u : Value) : Sat w0 (w.setCell ⟨g, j, none⟩ u) (Blk g (cs.setIfInBounds j u) t :: L) := by
  have hge := h.ge
  have hlt := h.lt
  have hb := h.below
  refine h.turn (fun G hG hGB => ⟨fun k => k = g, ⟨rfl, ?_⟩, hb.setCell (p := ⟨g, j, none⟩) hge u, by simp [World.setCell], fun k _ hn => Below.heap_setCell w ⟨g, j, none⟩ u k (fun e => hn (by rw [e]; exact hG.1)), fun k hk => by subst hk; exact ⟨.inl hG.1, by simpa [World.setCell] using hlt⟩⟩)
  simp [World.setCell, Array.getElem?_modify, hG.2]
end

/-- A row of the call's own (a slice that begins where its block begins, or nil). -/
def Row {α : Type} (d : Kd α) (e : Nat) (v : Value) (xs : List α) : Asn := ⟨fun B w F => d.R e w B F v xs, fun h hw => Kd.R_move h hw⟩
/-- A row that may begin inside its block. -/
def RowQ {α : Type} (d : Kd α) (e : Nat) (v : Value) (xs : List α) : Asn := ⟨fun B w F => d.Q e w B F v xs, fun h hw => Kd.Q_move h hw⟩
section
variable {α : Type} {d : Kd α} {e : Nat} {v : Value} {xs : List α} {w0 w w' : World} {L : List Asn}
theorem Sat.nilRow (d : Kd α) (e : Nat) (h : Sat w0 w L) : Sat w0 w (Row d e (.slice none 0 0) ([] : List α) :: L) := ⟨h.below, fun _ => False, Kd.R_nil d e w _ _, fun _ hk => hk.elim, h.seps.mono (fun _ hk => ⟨hk, fun h => h⟩)⟩
theorem Sat.row (h : Sat w0 w (Row d e v xs :: L)) : ∃ G : Nat → Prop, d.R e w w0.heap.size G v xs ∧ (∀ k, G k → w0.heap.size ≤ k ∧ k < w.heap.size) := h.get
theorem Sat.rowSlice (h : Sat w0 w (Row d e v xs :: L)) : ∃ A c, v = .slice A xs.length c ∧ xs.length ≤ c ∧ d.C w A xs.length xs := by
  obtain ⟨G, h1, _⟩ := h.get
  exact Kd.R_reads h1
theorem Sat.rowQSlice (h : Sat w0 w (RowQ d e v xs :: L)) : ∃ A c, v = .slice A xs.length c ∧ xs.length ≤ c ∧ d.C w A xs.length xs := by
  obtain ⟨G, h1, _⟩ := h.get
  exact Kd.Q_reads h1
theorem Sat.rowQ (h : Sat w0 w (Row d e v xs :: L)) : Sat w0 w (RowQ d e v xs :: L) := h.imp (fun _ hg => Kd.Q_of_R hg)
/-- Behind a law that ends in grownBy: the row is another one now. -/
theorem Sat.grown (h : Sat w0 w (Row d e v xs :: L)) {v1 : Value} {ys : List α} (h1 : ∀ G : Nat → Prop, d.R e w w0.heap.size G v xs → (∀ k, G k → w0.heap.size ≤ k ∧ k < w.heap.size) → d.R e w' w0.heap.size (fun k => G k ∨ w.heap.size ≤ k) v1 ys) (hb : Below w0.heap.size w0 w') (hg : w.grownBy w' v.ownBlock) : Sat w0 w' (Row d e v1 ys :: L) :=
  h.turn (fun G hG hGB => ⟨fun k => (G k ∨ w.heap.size ≤ k) ∧ k < w'.heap.size, Kd.R_mono (Kd.R_bound (h1 G hG hGB)) (fun k hk => ⟨hk.1, hk.2.2.1⟩), hb, hg.size, fun k hk hn => hg.block k hk (fun e => hn (hG.1 k e.symm)), fun _ hk => hk⟩)
/-- What a printed function hands back, of new blocks. -/
theorem Sat.made (h : Sat w0 w L) (hb : Below w.heap.size w w') (h1 : d.R e w' w.heap.size (fun _ => True) v xs) : Sat w0 w' (Row d e v xs :: L) :=
  h.push hb (G' := fun k => w.heap.size ≤ k ∧ k < w'.heap.size) (Kd.R_lower (Kd.R_mono (Kd.R_bound h1) (fun _ hk => ⟨hk.2.1, hk.2.2.1⟩)) h.size) (fun _ hk => hk)
end

/-! Rows that grow, and that are stored into. -/
section
variable {α : Type} {d : Kd α} {e : Nat} {v v1 : Value} {xs ys : List α} {w0 w w' : World} {L : List Asn}
theorem Sat.grew {G : Nat → Prop} (hb0 : Below w0.heap.size w0 w) (hG : ∀ k, G k → w0.heap.size ≤ k ∧ k < w.heap.size) (h3 : Seps w0.heap.size w L (fun k => (w0.heap.size ≤ k ∧ k < w.heap.size) ∧ ¬ G k))
    (hR : d.R e w' w0.heap.size (fun k => G k ∨ w.heap.size ≤ k) v1 ys) (hb : Below w0.heap.size w0 w') {row : Option Nat} (hg : w.grownBy w' row) (hrow : ∀ k, row = some k → G k) : Sat w0 w' (Row d e v1 ys :: L) := by
  refine ⟨hb, fun k => (G k ∨ w.heap.size ≤ k) ∧ k < w'.heap.size, Kd.R_mono (Kd.R_bound hR) (fun k hk => ⟨hk.1, hk.2.2.1⟩), fun k hk => ⟨?_, hk.2⟩, (h3.loc (fun k hk => hg.block k hk.1.2 (fun e => hk.2 (hrow k e.symm)))).mono (fun k hk => ⟨⟨hk.1.1, Nat.lt_of_lt_of_le hk.1.2 hg.size⟩, fun hk' => ?_⟩)⟩
  · rcases hk.1 with h | h
    · exact (hG k h).1
    · exact Nat.le_trans hb0.size h
  · rcases hk'.1 with h | h
    · exact hk.2 h
    · have := hk.1.2
      omega
theorem Sat.rowBlock (h : Sat w0 w (Row d e v xs :: L)) (hn : 0 < xs.length) : ∃ gb cap, v = .slice (some ⟨gb, 0, none⟩) xs.length cap ∧ w0.heap.size ≤ gb ∧ gb < w.heap.size := by
  obtain ⟨G, h1, hG⟩ := h.get
  obtain ⟨inner, ho⟩ := Kd.R_own h1
  obtain ⟨g, cap, rfl, hb, hl⟩ := ho.form hn
  exact ⟨g, cap, rfl, hb, hl⟩
theorem Sat.apart {g gb n c : Nat} {cs : Array Value} {t : TypeId} (h : Sat w0 w (Blk g cs t :: Row d e (.slice (some ⟨gb, 0, none⟩) n c) xs :: L)) : g ≠ gb := by
  obtain ⟨G, h1, h2, G', h3, h4, h5⟩ := h.seps
  rintro rfl
  exact (h4 g (h3.1 g rfl)).2 h1.1
theorem Sat.apartR {β : Type} {d' : Kd β} {e' : Nat} {ga gb n c n' c' : Nat} {zs : List β} (h : Sat w0 w (Row d e (.slice (some ⟨ga, 0, none⟩) n c) xs :: Row d' e' (.slice (some ⟨gb, 0, none⟩) n' c') zs :: L)) : ga ≠ gb := by
  obtain ⟨G, h1, h2, G', h3, h4, h5⟩ := h.seps
  rintro rfl
  exact (h4 ga (h3.1 ga rfl)).2 (h1.1 ga rfl)
end
section
variable {enc : Value → Value} {k : IntKind} {e gb cap : Nat} {xs : List Int} {w0 w : World} {L : List Asn}
theorem Sat.rowCell (h : Sat w0 w (Row (Kd.int k) e (.slice (some ⟨gb, 0, none⟩) xs.length cap) xs :: L)) (i : Nat) (hi : i < xs.length) : w.cell? ⟨gb, i, none⟩ = some (.int k (xs.getD i 0)) ∧ w.frozen? ⟨gb, i, none⟩ = false := by
  obtain ⟨G, h1, hG⟩ := h.get
  have h2 := Kd.R_cell (0 : Int) h1 (i : Int) (by omega) (by omega)
  simpa [rdOf] using h2
theorem Sat.rowPut (h : Sat w0 w (Row (Kd.int k) e (.slice (some ⟨gb, 0, none⟩) xs.length cap) xs :: L)) (i : Nat) (x : Int) : Sat w0 (w.setCell ⟨gb, i, none⟩ (.int k x)) (Row (Kd.int k) e (.slice (some ⟨gb, 0, none⟩) xs.length cap) (xs.set i x) :: L) := by
  have hb := h.below
  refine h.turn (fun G hG hGB => ?_)
  have h2 := (Kd.R_put hG (i : Int) x).1
  rw [Int.toNat_natCast] at h2
  have hg := hG.1 gb rfl
  have hgb := hGB gb hg
  exact ⟨G, h2, hb.setCell (p := ⟨gb, i, none⟩) hgb.1 _, by simp [World.setCell], fun j _ hn => Below.heap_setCell w ⟨gb, i, none⟩ _ j (fun e => hn (by rw [e]; exact hg)), fun j hj => ⟨.inl hj, by simpa [World.setCell] using (hGB j hj).2⟩⟩
end
section
variable {P : Program} {ops : Array Oper} {rest : List Oper} {o : Oper} {a : Act} {Q : Exit → Act → World → Prop} {α : Type}
/-- append(v, p), behind 'at_builtin'; p's cells need no other block. -/
theorem Sat.append (d : Kd α) {w0 W : World} {L : List Asn} (hgd : o.guard = none) (s x : Operand) (t e : TypeId) (z : Value) (bytes : Nat)
    (ho : o.op = .call { callee := .builtin .append, args := #[s, x], argTypes := #[t, t] })
    (ht : P.underlying t = some (.slice e)) (hinfo : (P.info? e).map (fun i => (i.zero, i.size, i.bytes)) = some (some z, d.sz, bytes)) (hz : z.cells.size = d.sz) (hs0 : 0 < d.sz) (hb0 : 0 < bytes)
    (v : Value) (xs : List α) (p : α) (cs : List Value) (hs : a.eval s = v) (hx : a.eval x = .slice (some ⟨W.heap.size, 0, none⟩) 1 1) (hp : d.M W w0.heap.size (fun _ => False) p cs)
    (HS : Sat w0 W (Row d e v xs :: L)) (hl : (xs.length + 1) * bytes ≤ 140737488355328)
    (h : ∀ v1 w1, Sat w0 w1 (Row d e v1 (xs ++ [p]) :: L) → W.heap.size ≤ w1.heap.size → wpList P ops Q rest (a.put o.dst v1) w1) :
    wpList P ops Q (o :: rest) a (W.alloc (.cells cs.toArray e)) := by
  obtain ⟨G, h1, h2, h3⟩ := HS.seps
  refine Kd.R_append d w0.heap.size hgd s x t e z bytes ho ht hinfo hz hs0 hb0 v xs p cs (fun k => G k ∨ W.heap.size ≤ k) (fun _ => False) hs hx hp (fun _ hk => hk.elim) (fun _ hk => .inr hk)
    (Kd.R_mono h1 (fun _ hk => .inl hk)) HS.below HS.size hl ?_
  intro v1 w1 hR hB hg _
  exact h v1 w1 (Sat.grew HS.below h2 h3 hR hB hg (fun k hk => h1.1 k hk)) hg.size
/-- append(v, p) of whole numbers. -/
theorem Sat.appendInt {w0 W : World} {L : List Asn} (hgd : o.guard = none) (s x : Operand) (t e : TypeId) (k : IntKind) (bytes : Nat)
    (ho : o.op = .call { callee := .builtin .append, args := #[s, x], argTypes := #[t, t] })
    (ht : P.underlying t = some (.slice e)) (hinfo : (P.info? e).map (fun i => (i.zero, i.size, i.bytes)) = some (some (.int k 0), 1, bytes)) (hb0 : 0 < bytes)
    (v : Value) (xs : List Int) (p : Int) (hs : a.eval s = v) (hx : a.eval x = .slice (some ⟨W.heap.size, 0, none⟩) 1 1)
    (HS : Sat w0 W (Row (Kd.int k) e v xs :: L)) (hl : (xs.length + 1) * bytes ≤ 140737488355328)
    (h : ∀ v1 w1, Sat w0 w1 (Row (Kd.int k) e v1 (xs ++ [p]) :: L) → W.heap.size ≤ w1.heap.size → wpList P ops Q rest (a.put o.dst v1) w1) :
    wpList P ops Q (o :: rest) a (W.alloc (.cells #[.int k p] e)) :=
  Sat.append (Kd.int k) hgd s x t e (.int k 0) bytes ho ht hinfo rfl (Nat.zero_lt_one) hb0 v xs p [.int k p] hs hx rfl HS hl h
end

section
variable {α β : Type} {d : Kd α} {d' : Kd β} {e e' : Nat} {v : Value} {xs : List α} {w0 w : World} {L : List Asn}
/-- A printed function that may write the row, and keeps all else that was there. -/
theorem Sat.viaKept (h : Sat w0 w (Row d e v xs :: L)) : ∃ G : Nat → Prop, d.R e w w0.heap.size G v xs ∧ (∀ k, G k → w0.heap.size ≤ k ∧ k < w.heap.size) ∧
    ∀ (w' : World) (v1 : Value) (ys : List β), d'.R e' w' w0.heap.size (fun k => G k ∨ w.heap.size ≤ k) v1 ys → Below w0.heap.size w0 w' → Kept w w' G → Sat w0 w' (Row d' e' v1 ys :: L) := by
  have h0s := h.size
  obtain ⟨G, h1, h2, h3⟩ := h.seps
  refine ⟨G, h1, h2, fun w' v1 ys hR hb hk => ?_⟩
  refine ⟨hb, fun k => (G k ∨ w.heap.size ≤ k) ∧ k < w'.heap.size, Kd.R_mono (Kd.R_bound hR) (fun k hk => ⟨hk.1, hk.2.2.1⟩), fun k hk => ⟨?_, hk.2⟩, (h3.loc (fun k hk' => hk.2 k hk'.1.2 hk'.2)).mono (fun k hk' => ⟨⟨hk'.1.1, Nat.lt_of_lt_of_le hk'.1.2 hk.1⟩, fun hk2 => ?_⟩)⟩
  · rcases hk.1 with h | h
    · exact (h2 k h).1
    · exact Nat.le_trans h0s h
  · rcases hk2.1 with h | h
    · exact hk'.2 h
    · have := hk'.1.2
      omega
theorem Sat.toString {P : Program} {src dst t : TypeId} {xs : List Int} (hs : P.underlying src = some (.slice t)) (he : P.underlying t = some (.int .u8)) (hd : P.underlying dst = some .string) (h : Sat w0 w (Row (Kd.int .u8) e v xs :: L)) :
    (convert src dst v).run P w = .ok (.string (strOfNums xs)) w := by
  obtain ⟨G, h1, _⟩ := h.get
  exact own_string hs he hd (Kd.own_of_R h1)
end

/-- '[]T{}'. -/
theorem Sat.emptyRow {α : Type} {w0 w : World} {L : List Asn} (d : Kd α) (e : Nat) (h : Sat w0 w L) : Sat w0 (w.alloc (.cells #[] e)) (Row d e (.slice (some ⟨w.heap.size, 0, none⟩) 0 0) ([] : List α) :: L) := by
  refine h.push (below_alloc (Below.refl _ _) _) (G' := fun k => k = w.heap.size) ⟨fun k hk => ?_, [], ?_, Reps.none _ _⟩ (fun k hk => by subst hk; simp)
  · have : w.heap.size = k := by simpa [Value.ownBlock] using hk
    exact this.symm
  · simpa using World.ownsRow_lit (base := w0.heap.size) (e := e) (size := d.sz) w #[] 0 h.size (by simp [maxLen]) (by simp)
end Go.Proofs.Ytlngljhinboglaa.Sl
