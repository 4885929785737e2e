/- A disk in plain words: files by rising names, what is pending, the power. -/
import Derived.Maps.OwnSet
import Derived.Maps.Ext
namespace Go.Proofs.Ytlngljhinboglaa.DkP
set_option linter.unusedVariables false
set_option linter.unusedSimpArgs false
abbrev Nm := List UInt8
abbrev FS (β : Type) := List (Nm × β)
section
variable {β γ : Type}
def ins (x : Nm × β) : FS β → FS β
  | [] => [x]
  | y :: r => if bytesBefore x.1 y.1 then x :: y :: r else y :: ins x r
def del (k : Nm) (l : FS β) : FS β := l.filter fun p => !(p.1 == k)
def put (k : Nm) (v : β) (l : FS β) : FS β := ins (k, v) (del k l)
def get (k : Nm) (l : FS β) : Option β := (l.find? fun p => p.1 == k).map (·.2)
def mv (f : β → γ) (l : FS β) : FS γ := l.map fun p => (p.1, f p.2)
theorem mv_ins (f : β → γ) (x : Nm × β) : ∀ l : FS β, mv f (ins x l) = ins (x.1, f x.2) (mv f l)
  | [] => rfl
  | y :: r => by
    rw [ins]
    show mv f (if bytesBefore x.1 y.1 = true then x :: y :: r else y :: ins x r) = if bytesBefore x.1 y.1 = true then (x.1, f x.2) :: (y.1, f y.2) :: mv f r else (y.1, f y.2) :: ins (x.1, f x.2) (mv f r)
    split
    · rfl
    · rw [← mv_ins f x r]; rfl
theorem mv_del (f : β → γ) (k : Nm) (l : FS β) : mv f (del k l) = del k (mv f l) := by
  unfold mv del
  rw [List.filter_map]
  rfl
theorem mv_put (f : β → γ) (k : Nm) (v : β) (l : FS β) : mv f (put k v l) = put k (f v) (mv f l) := by
  unfold put
  rw [mv_ins, mv_del]
theorem get_mv (f : β → γ) (k : Nm) (l : FS β) : get k (mv f l) = (get k l).map f := by
  unfold get mv
  rw [List.find?_map]
  simp only [Option.map_map]
  rfl
theorem mem_ins {x z : Nm × β} : ∀ {l : FS β}, z ∈ ins x l ↔ z = x ∨ z ∈ l
  | [] => by simp [ins]
  | y :: r => by
    rw [ins]
    split
    · simp
    · rw [List.mem_cons, mem_ins (l := r), List.mem_cons]
      exact ⟨fun h => h.elim (fun h => .inr (.inl h)) (fun h => h.elim .inl fun h => .inr (.inr h)), fun h => h.elim (fun h => .inr (.inl h)) (fun h => h.elim .inl fun h => .inr (.inr h))⟩
theorem mem_del {z : Nm × β} {k : Nm} {l : FS β} (h : z ∈ del k l) : z ∈ l ∧ z.1 ≠ k := by
  obtain ⟨h1, h2⟩ := List.mem_filter.1 h
  exact ⟨h1, by simpa using h2⟩
theorem mem_put {z : Nm × β} {k : Nm} {v : β} {l : FS β} (h : z ∈ put k v l) : z = (k, v) ∨ z ∈ l := (mem_ins.1 h).imp id fun h => (mem_del h).1
theorem get_mem {k : Nm} {v : β} {l : FS β} (h : get k l = some v) : (k, v) ∈ l := by
  unfold get at h
  obtain ⟨p, h1, rfl⟩ := Option.map_eq_some_iff.1 h
  have h2 := List.find?_some h1
  have h3 := List.mem_of_find?_eq_some h1
  have : p.1 = k := by simpa using h2
  subst this
  exact h3
theorem ins_length (x : Nm × β) : ∀ l : FS β, (ins x l).length = l.length + 1
  | [] => rfl
  | y :: r => by
    rw [ins]
    split
    · simp
    · simp [ins_length x r]
theorem del_length (k : Nm) (l : FS β) : (del k l).length ≤ l.length := List.length_filter_le _ _
theorem put_length (k : Nm) (v : β) (l : FS β) : (put k v l).length ≤ l.length + 1 := by
  unfold put
  rw [ins_length]
  have := del_length k l
  omega
/-- Names rise. -/
def Rising (l : FS β) : Prop := l.Pairwise fun p q => bytesBefore p.1 q.1 = true
theorem before_irrefl : ∀ a : Nm, bytesBefore a a = false
  | [] => rfl
  | a :: r => by simp [bytesBefore, before_irrefl r]
theorem before_trans : ∀ {a b c : Nm}, bytesBefore a b = true → bytesBefore b c = true → bytesBefore a c = true
  | [], [], _, h, _ => by simp [bytesBefore] at h
  | [], _ :: _, [], _, h => by simp [bytesBefore] at h
  | [], _ :: _, _ :: _, _, _ => rfl
  | _ :: _, [], _, h, _ => by simp [bytesBefore] at h
  | _ :: _, _ :: _, [], _, h => by simp [bytesBefore] at h
  | x :: a, y :: b, z :: c, h1, h2 => by
    simp only [bytesBefore, Bool.or_eq_true, Bool.and_eq_true, decide_eq_true_eq, beq_iff_eq] at h1 h2 ⊢
    rcases h1 with h1 | ⟨rfl, h1⟩
    · rcases h2 with h2 | ⟨rfl, h2⟩
      · exact .inl (UInt8.lt_trans h1 h2)
      · exact .inl h1
    · rcases h2 with h2 | ⟨rfl, h2⟩
      · exact .inl h2
      · exact .inr ⟨rfl, before_trans h1 h2⟩
theorem before_total : ∀ {a b : Nm}, a ≠ b → bytesBefore a b = false → bytesBefore b a = true
  | [], [], h, _ => absurd rfl h
  | [], _ :: _, _, h => by simp [bytesBefore] at h
  | _ :: _, [], _, _ => rfl
  | x :: a, y :: b, h, h1 => by
    simp only [bytesBefore, Bool.or_eq_false_iff, Bool.and_eq_false_iff, decide_eq_false_iff_not, beq_eq_false_iff_ne, Bool.or_eq_true, Bool.and_eq_true, decide_eq_true_eq, beq_iff_eq] at h1 ⊢
    obtain ⟨h1, h2⟩ := h1
    by_cases e : x = y
    · subst e
      refine .inr ⟨rfl, before_total (fun e => h (by rw [e])) (h2.resolve_left (fun h => h rfl))⟩
    · left
      rcases Nat.lt_trichotomy x.toNat y.toNat with g | g | g
      · exact absurd (UInt8.lt_iff_toNat_lt.2 g) h1
      · exact absurd (UInt8.toNat_inj.1 g) e
      · exact UInt8.lt_iff_toNat_lt.2 g
theorem Rising.del {l : FS β} (h : Rising l) (k : Nm) : Rising (del k l) := List.Pairwise.filter _ h
theorem Rising.ins {x : Nm × β} : ∀ {l : FS β}, Rising l → (∀ p ∈ l, p.1 ≠ x.1) → Rising (ins x l)
  | [], _, _ => List.pairwise_singleton _ _
  | y :: r, h, hx => by
    obtain ⟨h1, h2⟩ := List.pairwise_cons.1 h
    rw [DkP.ins]
    split
    · rename_i c
      refine List.pairwise_cons.2 ⟨fun p hp => ?_, h⟩
      rcases List.mem_cons.1 hp with rfl | hp
      · exact c
      · exact before_trans c (h1 p hp)
    · rename_i c
      refine List.pairwise_cons.2 ⟨fun p hp => ?_, Rising.ins h2 fun p hp => hx p (List.mem_cons_of_mem _ hp)⟩
      rcases mem_ins.1 hp with rfl | hp
      · exact before_total (fun e => hx y (List.mem_cons_self ..) e.symm) (by simpa using c)
      · exact h1 p hp
theorem Rising.put {l : FS β} (h : Rising l) (k : Nm) (v : β) : Rising (put k v l) := (h.del k).ins fun _ hp => (mem_del hp).2
theorem Rising.mv {l : FS β} (h : Rising l) (f : β → γ) : Rising (mv f l) := List.pairwise_map.2 h
theorem get_ins_hit {k : Nm} {v : β} : ∀ {l : FS β}, (∀ p ∈ l, p.1 ≠ k) → get k (ins (k, v) l) = some v
  | [], _ => by simp [ins, get]
  | y :: r, h => by
    rw [ins]
    split
    · simp [get]
    · have := get_ins_hit (v := v) (l := r) fun p hp => h p (List.mem_cons_of_mem _ hp)
      unfold get at this ⊢
      rw [List.find?_cons_of_neg (by simpa using h y (List.mem_cons_self ..))]
      exact this
theorem get_ins_miss {k k' : Nm} {v : β} (hne : k ≠ k') : ∀ {l : FS β}, get k' (ins (k, v) l) = get k' l
  | [] => by simp [ins, get, hne]
  | y :: r => by
    rw [ins]
    split
    · simp [get, hne]
    · have := get_ins_miss (v := v) hne (l := r)
      unfold get at this ⊢
      by_cases hy : y.1 = k'
      · simp [hy]
      · rw [List.find?_cons_of_neg (by simpa using hy), List.find?_cons_of_neg (by simpa using hy)]
        exact this
theorem get_del_same {k : Nm} {l : FS β} : get k (del k l) = none := by
  unfold get del
  rw [Option.map_eq_none_iff, List.find?_eq_none]
  intro p hp
  simpa using (mem_del hp).2
theorem get_del_other {k k' : Nm} (hne : k ≠ k') {l : FS β} : get k' (del k l) = get k' l := by
  unfold get del
  congr 1
  induction l with
  | nil => rfl
  | cons y r ih =>
    by_cases hy : y.1 = k
    · rw [List.filter_cons_of_neg (by simpa using hy), ih, List.find?_cons_of_neg (by rw [hy]; simpa using hne)]
    · rw [List.filter_cons_of_pos (by simpa using hy)]
      by_cases hk : y.1 = k'
      · simp [hk]
      · rw [List.find?_cons_of_neg (by simpa using hk), List.find?_cons_of_neg (by simpa using hk), ih]
theorem get_put_same {k : Nm} {v : β} {l : FS β} : get k (put k v l) = some v := get_ins_hit fun _ hp => (mem_del hp).2
theorem get_put_other {k k' : Nm} (hne : k ≠ k') {v : β} {l : FS β} : get k' (put k v l) = get k' l := by
  unfold put
  rw [get_ins_miss hne, get_del_other hne]
theorem del_of_none {k : Nm} {l : FS β} (h : get k l = none) : del k l = l := by
  unfold get at h
  rw [Option.map_eq_none_iff, List.find?_eq_none] at h
  unfold del
  rw [List.filter_eq_self]
  intro p hp
  simpa using h p hp
/-- All the bytes. -/
def tot : FS (List UInt8) → Nat
  | [] => 0
  | p :: r => p.2.length + tot r
theorem tot_ins (x : Nm × List UInt8) : ∀ l, tot (ins x l) = x.2.length + tot l
  | [] => rfl
  | y :: r => by
    rw [ins]
    split
    · rfl
    · rw [tot, tot_ins x r, tot]; omega
theorem tot_del {k : Nm} : ∀ {l : FS (List UInt8)}, Rising l → tot (del k l) + ((get k l).getD []).length = tot l
  | [], _ => rfl
  | y :: r, h => by
    obtain ⟨h1, h2⟩ := List.pairwise_cons.1 h
    have ih := tot_del (k := k) h2
    by_cases hy : y.1 = k
    · have hn : get k r = none := by
        unfold get
        rw [Option.map_eq_none_iff, List.find?_eq_none]
        intro p hp
        have := h1 p hp
        simp only [beq_iff_eq]
        rintro rfl
        rw [hy, before_irrefl] at this
        cases this
      rw [hn] at ih
      have e : del k (y :: r) = del k r := List.filter_cons_of_neg (by simpa using hy)
      have e2 : get k (y :: r) = some y.2 := by simp [get, hy]
      rw [e, e2, tot]
      simp only [Option.getD_some, Option.getD_none, List.length_nil] at ih ⊢
      omega
    · have e : del k (y :: r) = y :: del k r := List.filter_cons_of_pos (by simpa using hy)
      have e2 : get k (y :: r) = get k r := by
        unfold get
        rw [List.find?_cons_of_neg (by simpa using hy)]
      rw [e, e2, tot, tot]
      omega
theorem tot_put {k : Nm} {v : List UInt8} {l : FS (List UInt8)} (h : Rising l) : tot (put k v l) + ((get k l).getD []).length = tot l + v.length := by
  unfold put
  rw [tot_ins]
  have := tot_del (k := k) h
  simp only
  omega
end
/-! As the kit's maps have it. -/
def mapD (l : FS Value) : DataW Value := .map (l.map fun p => (.string p.1, .held p.2))
theorem mapD_insert (k : Nm) (v : Value) : ∀ l : FS Value, DataW.insert ((.string k : Lit), (.held v : DataW Value)) (l.map fun p => (.string p.1, .held p.2)) = (ins (k, v) l).map fun p => (.string p.1, .held p.2)
  | [] => rfl
  | y :: r => by
    rw [ins, List.map_cons, DataW.insert]
    show (if bytesBefore k y.1 = true then _ else _) = _
    split
    · rfl
    · rw [mapD_insert k v r]; rfl
theorem mapD_filter (k : Nm) (l : FS Value) : (l.map fun p => ((.string p.1 : Lit), (.held p.2 : DataW Value))).filter (fun p => !p.1.sameKey (.string k)) = (del k l).map fun p => (.string p.1, .held p.2) := by
  unfold del
  rw [List.filter_map]
  rfl
theorem mapD_put (k : Nm) (v : Value) (l : FS Value) : (mapD l).put (.string k) (.held v) = mapD (put k v l) := by
  unfold mapD DataW.put put
  simp only
  rw [mapD_filter, mapD_insert]
theorem mapD_del (k : Nm) (l : FS Value) : (mapD l).del (.string k) = mapD (del k l) := by
  unfold mapD DataW.del
  simp only
  rw [mapD_filter]
theorem mapD_find (k : Nm) (l : FS Value) : (l.map fun p => ((.string p.1 : Lit), (.held p.2 : DataW Value))).find? (fun p => p.1.sameKey (.string k)) = (l.find? fun p => p.1 == k).map fun p => (.string p.1, .held p.2) := by
  rw [List.find?_map]
  rfl
theorem mapD_at (k : Nm) (l : FS Value) (z : DataW Value) : (mapD l).atKey (.string k) z = match get k l with | some v => .held v | none => z := by
  unfold mapD DataW.atKey get
  simp only
  rw [mapD_find]
  cases l.find? fun p => p.1 == k <;> rfl
theorem mapD_has (k : Nm) (l : FS Value) : Maps.has (mapD l) (.string k) = (get k l).isSome := by
  unfold mapD get
  rw [Maps.has_eq, List.any_map]
  have : ((fun p : Lit × DataW Value => p.1.sameKey (.string k)) ∘ fun p : Nm × Value => ((.string p.1 : Lit), (.held p.2 : DataW Value))) = fun p => p.1 == k := rfl
  rw [this, Option.isSome_map, Bool.eq_iff_iff, List.any_eq_true, List.find?_isSome]
/-! What is pending, and what it does. -/
inductive Ch where
  | app (a s : ByteArray)
  | ren (a b : ByteArray)
  | rem (a : ByteArray)
def Ch.size : Ch → Nat
  | .app _ s => s.size
  | _ => 0
def Ch.isApp : Ch → Bool
  | .app _ _ => true
  | _ => false
abbrev Cnt := List UInt8
def nm (a : ByteArray) : Nm := a.data.toList
def Ch.go (c : Ch) (n : Nat) (l : FS Cnt) : FS Cnt := match c with
  | .app a s => put (nm a) ((get (nm a) l).getD [] ++ s.data.toList.take n) l
  | .ren a b => put (nm b) ((get (nm a) l).getD []) (del (nm a) l)
  | .rem a => del (nm a) l
theorem Ch.go_rising (c : Ch) (n : Nat) {l : FS Cnt} (h : Rising l) : Rising (c.go n l) := by
  cases c with
  | app a s => exact h.put _ _
  | ren a b => exact (h.del _).put _ _
  | rem a => exact h.del _
theorem Ch.go_length (c : Ch) (n : Nat) (l : FS Cnt) : (c.go n l).length ≤ l.length + 1 := by
  cases c with
  | app a s => exact put_length _ _ _
  | ren a b => exact Nat.le_trans (put_length _ _ _) (by have := del_length (nm a) l; omega)
  | rem a => exact Nat.le_trans (del_length _ _) (Nat.le_succ _)
/-- What a crash leaves: the first keep of what is pending, and a part of the next. -/
def crashF (keep part : Int) : Nat → List Ch → FS Cnt → FS Cnt
  | _, [], l => l
  | i, c :: r, l => if (i : Int) < keep then crashF keep part (i + 1) r (c.go c.size l) else if c.isApp = true ∧ 0 < part then c.go (min part (c.size : Int)).toNat l else l
structure DS where
  room : Int
  files : FS Cnt
  lasting : FS Cnt
  pend : List Ch
  ops : Int
  left : Int
  keep : Int
  part : Int
  dead : Bool
def DS.crash (d : DS) (keep part : Int) : DS := if d.dead = true then d else
  let f := crashF keep part 0 d.pend d.lasting
  { d with files := f, lasting := f, pend := [], left := -1, dead := true }
/-- The power's part of a call: the disk behind it, and whether it may be. -/
def DS.rawD (d : DS) : DS := if d.left = 0 then d.crash d.keep d.part else d
def DS.raw (d : DS) : DS × Int := let e := d.rawD
  if e.dead = true then (e, 13) else ({ e with left := if 0 < e.left then e.left - 1 else e.left, ops := e.ops + 1 }, 0)
def DS.change (d : DS) (c : Ch) : DS × Int := let r := d.raw
  if r.2 = 0 then ({ r.1 with pend := r.1.pend ++ [c], files := c.go c.size r.1.files }, 0) else r
def fits (a : ByteArray) : Bool := decide (0 < a.size ∧ a.size ≤ 40)
def DS.append (d : DS) (a s : ByteArray) : DS × Int := if fits a = false then (d, 10) else if d.room < (tot d.files : Int) + s.size then (d, 12) else d.change (.app a s)
def DS.rename (d : DS) (a b : ByteArray) : DS × Int := if fits a = false ∨ fits b = false then (d, 10) else if get (nm a) d.files = none then (d, 11) else d.change (.ren a b)
def DS.remove (d : DS) (a : ByteArray) : DS × Int := if fits a = false then (d, 10) else if get (nm a) d.files = none then (d, 11) else d.change (.rem a)
def DS.sync (d : DS) : DS × Int := let r := d.raw
  if r.2 = 0 then ({ r.1 with pend := [], lasting := r.1.files }, 0) else r
def DS.new (room : Int) : DS := ⟨max room 0, [], [], [], 0, -1, 0, 0, false⟩
def DS.cut (d : DS) (n keep part : Int) : DS := { d with left := max n 0, keep := keep, part := part }
def DS.power (d : DS) : DS := { d with dead := false, left := -1 }
end Go.Proofs.Ytlngljhinboglaa.DkP
