/- The document's disk in plain words: a list of files by rising names is what DkP has; find, with, without, done.
   What the document's done comes to. -/
import Derived.Test.YtlngljhinboglaaZDiskSynced6
import Derived.Test.YtlngljhinboglaaZDiskSynced8
import Derived.Test.YtlngljhinboglaaZDiskSynced4
namespace Go.Proofs.Ytlngljhinboglaa.DkR
open Go.RowKit Go.Proofs.YtlngljhinboglaaW.PrintWords Go.Proofs.YtlngljhinboglaaW.PrintLast Go.Proofs.YtlngljhinboglaaW.PrintMore Go.Proofs.Ytlngljhinboglaa.QB Go.Proofs.Ytlngljhinboglaa.DkP Go.Proofs.Ytlngljhinboglaa.DkV Go.Proofs.Ytlngljhinboglaa.DkL
set_option linter.unusedVariables false
set_option linter.unusedSimpArgs false
abbrev Fi := S48
def fi (p : Nm × Cnt) : Fi := ⟨⟨p.1.toArray⟩, ⟨p.2.toArray⟩⟩
def ofFS (f : FS Cnt) : List Fi := f.map fi
theorem less_eq : ∀ (a b : List UInt8), Op.bytesLess a b = bytesBefore a b
  | [], [] => by simp [Op.bytesLess, bytesBefore]
  | [], _ :: _ => by simp [Op.bytesLess, bytesBefore]
  | _ :: _, [] => by simp [Op.bytesLess, bytesBefore]
  | x :: a, y :: b => by
    rw [Op.bytesLess, bytesBefore, less_eq a b]
/-- Where a name stands, or would. -/
def pos (k : Nm) : FS Cnt → Nat
  | [] => 0
  | p :: r => if bytesBefore p.1 k = true then pos k r + 1 else 0
theorem pos_le (k : Nm) : ∀ f : FS Cnt, pos k f ≤ f.length
  | [] => Nat.le_refl _
  | p :: r => by
    rw [pos]
    have := pos_le k r
    split
    · rw [List.length_cons]; omega
    · exact Nat.zero_le _
theorem pos_lt (k : Nm) : ∀ (f : FS Cnt) (i : Nat) (h : i < f.length), i < pos k f → bytesBefore f[i].1 k = true
  | [], i, h, _ => by cases h
  | p :: r, 0, h, hi => by
    rw [pos] at hi
    split at hi
    · assumption
    · cases hi
  | p :: r, i + 1, h, hi => by
    rw [pos] at hi
    split at hi
    · exact pos_lt k r i (by simpa using h) (by omega)
    · cases hi
theorem pos_at (k : Nm) : ∀ (f : FS Cnt) (h : pos k f < f.length), bytesBefore (f[pos k f]'h).1 k = false
  | [], h => by cases h
  | p :: r, h => by
    by_cases c : bytesBefore p.1 k = true
    · have e : pos k (p :: r) = pos k r + 1 := by rw [pos, if_pos c]
      have h2 : pos k r < r.length := by rw [e] at h; simpa using h
      have := pos_at k r h2
      simp only [e, List.getElem_cons_succ]
      exact this
    · have e : pos k (p :: r) = 0 := by rw [pos, if_neg c]
      simp only [e, List.getElem_cons_zero]
      simpa using c
theorem before_asymm {a b : Nm} (h : bytesBefore a b = true) : bytesBefore b a = false := by
  cases hb : bytesBefore b a with
  | false => rfl
  | true => exact absurd (before_trans h hb) (by rw [before_irrefl]; simp)
theorem get_none_of {k : Nm} : ∀ {f : FS Cnt}, (∀ p ∈ f, p.1 ≠ k) → get k f = none
  | f, h => by
    unfold DkP.get
    rw [Option.map_eq_none_iff, List.find?_eq_none]
    intro p hp
    simpa using h p hp
/-- What is told of a name, by where it stands. -/
theorem get_pos {k : Nm} : ∀ {f : FS Cnt}, Rising f → get k f = if h : pos k f < f.length then (if (f[pos k f]'h).1 = k then some (f[pos k f]'h).2 else none) else none
  | [], _ => rfl
  | p :: r, hr => by
    obtain ⟨h1, h2⟩ := List.pairwise_cons.1 hr
    by_cases c : bytesBefore p.1 k = true
    · have e : pos k (p :: r) = pos k r + 1 := by rw [pos, if_pos c]
      have hne : p.1 ≠ k := by rintro e2; rw [e2, before_irrefl] at c; cases c
      have eg : get k (p :: r) = get k r := by
        unfold DkP.get
        rw [List.find?_cons_of_neg (by simpa using hne)]
      rw [eg, get_pos h2]
      simp only [e, List.length_cons, Nat.add_lt_add_iff_right, List.getElem_cons_succ]
    · have e : pos k (p :: r) = 0 := by rw [pos, if_neg c]
      simp only [e, List.length_cons, Nat.zero_lt_succ, dite_true, List.getElem_cons_zero]
      by_cases hk : p.1 = k
      · rw [if_pos hk]
        simp [DkP.get, hk]
      · rw [if_neg hk]
        have hb : bytesBefore k p.1 = true := before_total hk (by simpa using c)
        refine get_none_of fun q hq => ?_
        rcases List.mem_cons.1 hq with rfl | hq
        · exact hk
        · rintro rfl
          have := h1 q hq
          rw [before_asymm this] at hb
          cases hb
theorem ins_pos {k : Nm} {v : Cnt} : ∀ {f : FS Cnt}, (∀ p ∈ f, p.1 ≠ k) → ins (k, v) f = f.take (pos k f) ++ (k, v) :: f.drop (pos k f)
  | [], _ => rfl
  | p :: r, h => by
    have hne := h p (List.mem_cons_self ..)
    by_cases c : bytesBefore p.1 k = true
    · have e : pos k (p :: r) = pos k r + 1 := by rw [pos, if_pos c]
      rw [ins, if_neg (by simp only; rw [before_asymm c]; simp), ins_pos fun q hq => h q (List.mem_cons_of_mem _ hq), e]
      simp
    · have e : pos k (p :: r) = 0 := by rw [pos, if_neg c]
      have hb : bytesBefore k p.1 = true := before_total hne (by simpa using c)
      rw [ins, if_pos hb, e]
      simp
theorem del_pos {k : Nm} : ∀ {f : FS Cnt}, Rising f → get k f ≠ none → del k f = f.take (pos k f) ++ f.drop (pos k f + 1) ∧ pos k (del k f) = pos k f
  | [], _, h => absurd rfl h
  | p :: r, hr, hg => by
    obtain ⟨h1, h2⟩ := List.pairwise_cons.1 hr
    by_cases c : bytesBefore p.1 k = true
    · have e : pos k (p :: r) = pos k r + 1 := by rw [pos, if_pos c]
      have hne : p.1 ≠ k := by rintro e2; rw [e2, before_irrefl] at c; cases c
      have eg : get k (p :: r) = get k r := by
        unfold DkP.get
        rw [List.find?_cons_of_neg (by simpa using hne)]
      rw [eg] at hg
      obtain ⟨i1, i2⟩ := del_pos h2 hg
      have ed : del k (p :: r) = p :: del k r := List.filter_cons_of_pos (by simpa using hne)
      refine ⟨?_, ?_⟩
      · rw [ed, i1, e]; simp
      · rw [ed, pos, if_pos c, i2, e]
    · have e : pos k (p :: r) = 0 := by rw [pos, if_neg c]
      have hk : p.1 = k := by
        rcases Classical.em (p.1 = k) with h | h
        · exact h
        · exfalso
          have hb : bytesBefore k p.1 = true := before_total h (by simpa using c)
          refine hg (get_none_of fun q hq => ?_)
          rcases List.mem_cons.1 hq with rfl | hq
          · exact h
          · rintro rfl
            have := h1 q hq
            rw [before_asymm this] at hb
            cases hb
      have hnr : ∀ q ∈ r, q.1 ≠ k := fun q hq => by
        rintro rfl
        have := h1 q hq
        rw [hk, before_irrefl] at this
        cases this
      have ed : del k (p :: r) = r := by
        have : del k (p :: r) = del k r := List.filter_cons_of_neg (by simpa using hk)
        rw [this]
        exact del_of_none (get_none_of hnr)
      refine ⟨by rw [ed, e]; simp, ?_⟩
      rw [ed, e]
      cases r with
      | nil => rfl
      | cons q s =>
        rw [pos, if_neg]
        have := h1 q (List.mem_cons_self ..)
        rw [hk] at this
        rw [before_asymm this]
        simp
theorem wrap_succ {i : Nat} (h : i ≤ 1000000) : wrap64 ((i : Int) + 1) = ((i + 1 : Nat) : Int) := by unfold wrap64; omega
/-- What find comes to. -/
theorem find_l0 {f : FS Cnt} (a : ByteArray) (hl : f.length ≤ 1000000) : ∀ (d k i : Nat), i + d = pos (nm a) f → d < k → thermographref01_find.l0 k (ofFS f) a i = some (((pos (nm a) f : Nat) : Int), if h : pos (nm a) f < f.length then decide ((f[pos (nm a) f]'h).1 = nm a) else false) := by
  have hlen : (ofFS f).length = f.length := by unfold ofFS; simp
  have hp := pos_le (nm a) f
  have ha : a.toList = nm a := ByteArray.toList_eq a
  have hrd : ∀ (i : Nat) (h : i < f.length), ((rd_T48 (ofFS f) (i : Int)).f0).toList = f[i].1 := by
    intro i h
    have : rd_T48 (ofFS f) (i : Int) = fi f[i] := by
      unfold rd_T48 ofFS
      rw [Int.toNat_natCast, List.getD_eq_getElem?_getD, List.getElem?_map, List.getElem?_eq_getElem h]
      rfl
    rw [this, ByteArray.toList_eq]
    simp [fi]
  intro d
  induction d with
  | zero =>
    intro k i hi hk
    obtain ⟨k, rfl⟩ : ∃ k', k = k' + 1 := ⟨k - 1, by omega⟩
    have hi' : i = pos (nm a) f := by omega
    subst hi'
    rw [thermographref01_find.l0, hlen]
    by_cases h : pos (nm a) f < f.length
    · rw [if_pos (by omega), if_pos (by omega), hrd _ h, less_eq, ha, if_neg (by rw [pos_at _ _ h]; simp), dif_pos h]
      congr 2
      rw [Bool.eq_iff_iff, beq_iff_eq, decide_eq_true_iff]
    · rw [if_neg (by omega), dif_neg h]
  | succ d ih =>
    intro k i hi hk
    obtain ⟨k, rfl⟩ : ∃ k', k = k' + 1 := ⟨k - 1, by omega⟩
    have h : i < f.length := by omega
    rw [thermographref01_find.l0, hlen, if_pos (by omega), if_pos (by omega), hrd _ h, less_eq, ha, if_pos (pos_lt _ _ _ h (by omega))]
    rw [wrap_succ (by omega)]
    exact ih k (i + 1) (by omega) (by omega)
theorem find_f {f : FS Cnt} (hr : Rising f) (a : ByteArray) (hl : f.length ≤ 1000000) {k : Nat} (hk : f.length < k) : thermographref01_find.f k (ofFS f) a = some (((pos (nm a) f : Nat) : Int), (get (nm a) f).isSome) := by
  have := pos_le (nm a) f
  unfold thermographref01_find.f
  rw [show (0 : Int) = ((0 : Nat) : Int) from rfl, find_l0 a hl (pos (nm a) f) k 0 (by omega) (by omega), get_pos hr]
  congr 2
  split
  · split
    · rename_i h; simp [h]
    · rename_i h; simp [h]
  · rfl
theorem few {a b : List Fi} (ha : a.length ≤ 1000000) (hb : b.length ≤ 1000000) : a.length + b.length < 4398046511104 := by omega
theorem few1 {a : List Fi} (ha : a.length ≤ 1000000) : a.length < 4398046511104 := by omega
theorem ofFS_length (g : FS Cnt) : (ofFS g).length = g.length := by unfold ofFS; simp
theorem nil_few : ([] : List Fi).length ≤ 1000000 := Nat.zero_le _
theorem take_few {a : List Fi} {n : Nat} (h : a.length ≤ 1000000) : (a.take n).length ≤ 1000000 := by rw [List.length_take]; omega
theorem take_few' {a : List Fi} {n m : Nat} (h : a.length ≤ m) : (([] : List Fi) ++ a.take n).length ≤ m := by rw [List.nil_append, List.length_take]; omega
theorem drop_few {a : List Fi} {n : Nat} (h : a.length ≤ 1000000) : (a.drop n).length ≤ 1000000 := by rw [List.length_drop]; omega
theorem one_few {a : List Fi} {x : Fi} (h : a.length ≤ 900000) : (a ++ [x]).length ≤ 1000000 := by rw [List.length_append, List.length_singleton]; omega
theorem without_f {f : FS Cnt} {i : Nat} (hi : i < f.length) (hl : f.length ≤ 1000000) : thermographref01_without.f (ofFS f) i = some (ofFS (f.take i ++ f.drop (i + 1))) := by
  have h1 : (0 : Int) ≤ (i : Int) := Int.natCast_nonneg i
  have h2 : (i : Int) ≤ ((ofFS f).length : Int) := by rw [ofFS_length]; exact Int.ofNat_le.2 (Nat.le_of_lt hi)
  have h3 : (0 : Int) ≤ ((i + 1 : Nat) : Int) := Int.natCast_nonneg _
  have h4 : ((i + 1 : Nat) : Int) ≤ ((ofFS f).length : Int) := by rw [ofFS_length]; exact Int.ofNat_le.2 hi
  have hg : (ofFS f).length ≤ 1000000 := by rw [ofFS_length]; exact hl
  unfold thermographref01_without.f
  rw [wrap_succ (Nat.le_trans (Nat.le_of_lt hi) hl)]
  simp only [Option.bind_some]
  rw [if_pos h1, if_pos h2, if_pos (few nil_few (take_few hg)), if_pos h3, if_pos h4, if_pos (few (take_few' hg) (drop_few hg)), Int.toNat_natCast, Int.toNat_natCast, List.nil_append]
  unfold ofFS
  rw [List.map_append, List.map_take, List.map_drop]
theorem put_at {g f : FS Cnt} {a s : ByteArray} (hl : g.length ≤ 900000) (hp : pos (nm a) g ≤ g.length) (hne : ∀ p ∈ g, p.1 ≠ nm a) (hpg : pos (nm a) g = pos (nm a) f) : (some ([] : List Fi)).bind (fun y148 =>
          if 0 ≤ ((pos (nm a) f : Nat) : Int) then
            if ((pos (nm a) f : Nat) : Int) ≤ ((ofFS g).length : Int) then
              (some (List.take ((pos (nm a) f : Nat) : Int).toNat (ofFS g))).bind fun y151 =>
                if y148.length + y151.length < 4398046511104 then
                  (some (y148 ++ y151)).bind fun y155 =>
                    if y155.length < 4398046511104 then
                      (some (y155 ++ [(⟨a, s⟩ : Fi)])).bind fun y158 =>
                        (some (List.drop ((pos (nm a) f : Nat) : Int).toNat (ofFS g))).bind fun y161 =>
                          if y158.length + y161.length < 4398046511104 then some (y158 ++ y161) else none
                    else none
                else none
            else none
          else none) = some (ofFS (ins (nm a, s.data.toList) g)) := by
  have hg9 : (ofFS g).length ≤ 900000 := by rw [ofFS_length]; exact hl
  have hg : (ofFS g).length ≤ 1000000 := Nat.le_trans hg9 (by decide)
  have h1 : (0 : Int) ≤ ((pos (nm a) f : Nat) : Int) := Int.natCast_nonneg _
  have h2 : ((pos (nm a) f : Nat) : Int) ≤ ((ofFS g).length : Int) := by rw [ofFS_length, ← hpg]; exact Int.ofNat_le.2 hp
  have hfi : (⟨a, s⟩ : Fi) = fi (nm a, s.data.toList) := by cases a; cases s; rfl
  simp only [Option.bind_some]
  rw [if_pos h1, if_pos h2, if_pos (few nil_few (take_few hg)), if_pos (few1 (take_few' hg)), if_pos (few (one_few (take_few' hg9)) (drop_few hg)), Int.toNat_natCast, List.nil_append, ins_pos hne, hpg, hfi]
  unfold ofFS
  rw [List.map_append, List.map_cons, List.map_take, List.map_drop]
  simp
theorem with_f {f : FS Cnt} (hr : Rising f) (a s : ByteArray) (hl : f.length ≤ 900000) {k : Nat} (hk : f.length < k) : thermographref01_with.f k (ofFS f) a s = some (ofFS (put (nm a) s.data.toList f)) := by
  have hp := pos_le (nm a) f
  unfold thermographref01_with.f
  rw [find_f hr a (Nat.le_trans hl (by decide)) hk, Option.bind_some]
  cases hg : get (nm a) f with
  | none =>
    have hne : ∀ p ∈ f, p.1 ≠ nm a := by
      unfold DkP.get at hg
      rw [Option.map_eq_none_iff, List.find?_eq_none] at hg
      intro p hp
      simpa using hg p hp
    simp only [Option.isSome_none, Bool.false_eq_true, if_false]
    refine (put_at hl hp hne rfl).trans ?_
    unfold DkP.put
    rw [del_of_none hg]
  | some v =>
    obtain ⟨d1, d2⟩ := del_pos hr (k := nm a) (by rw [hg]; simp)
    have hlt : pos (nm a) f < f.length := by
      have := get_pos hr (k := nm a)
      rw [hg] at this
      split at this
      · assumption
      · cases this
    have hdl2 : (del (nm a) f).length + 1 = f.length := by rw [d1, List.length_append, List.length_take, List.length_drop]; omega
    simp only [Option.isSome_some, if_true]
    rw [without_f hlt (Nat.le_trans hl (by decide)), ← d1, Option.bind_some]
    exact put_at (by omega) (by omega) (fun p hp => (mem_del hp).2) d2
end Go.Proofs.Ytlngljhinboglaa.DkR
namespace Go.Proofs.Ytlngljhinboglaa.DkE
open Go.RowKit Go.WideMaps Go.ChangeMaps Go.MapKept Go.Maps Go.Lib Go.Proofs.YtlngljhinboglaaW.PrintWords Go.Proofs.YtlngljhinboglaaW.PrintLast Go.Proofs.YtlngljhinboglaaW.PrintMore Go.Proofs.Ytlngljhinboglaa.QB Go.Proofs.Ytlngljhinboglaa.Sl Go.Proofs.Ytlngljhinboglaa.DkP Go.Proofs.Ytlngljhinboglaa.DkS Go.Proofs.Ytlngljhinboglaa.DkW Go.Proofs.Ytlngljhinboglaa.DkT Go.Proofs.Ytlngljhinboglaa.DkV Go.Proofs.Ytlngljhinboglaa.DkR
set_option linter.unusedVariables false
set_option linter.unusedSimpArgs false
theorem get_some_pos {k : Nm} {v : Cnt} {f : FS Cnt} (hr : Rising f) (hg : get k f = some v) : ∃ h : pos k f < f.length, f[pos k f]'h = (k, v) := by
  have e := get_pos hr (k := k)
  rw [hg] at e
  split at e
  · rename_i h
    split at e
    · rename_i h2
      exact ⟨h, Prod.ext h2 (Option.some.inj e).symm⟩
    · cases e
  · cases e
theorem put_self {k : Nm} {v : Cnt} {f : FS Cnt} (hr : Rising f) (hg : get k f = some v) : put k v (del k f) = f := by
  obtain ⟨h, h2⟩ := get_some_pos hr hg
  obtain ⟨d1, d2⟩ := del_pos hr (k := k) (by rw [hg]; simp)
  have hlen : (f.take (pos k f)).length = pos k f := by rw [List.length_take]; omega
  unfold DkP.put
  rw [del_of_none get_del_same, ins_pos fun p hp => (mem_del hp).2, d2, d1, List.take_left' hlen, List.drop_left' hlen, ← h2, ← List.drop_eq_getElem_cons h, List.take_append_drop]
theorem rd_pos {k : Nm} {v : Cnt} {f : FS Cnt} (hr : Rising f) (hg : get k f = some v) : (rd_T48 (ofFS f) (pos k f : Nat)).f1 = ⟨v.toArray⟩ := by
  obtain ⟨h, h2⟩ := get_some_pos hr hg
  unfold rd_T48 ofFS
  rw [Int.toNat_natCast, List.getD_eq_getElem?_getD, List.getElem?_map, List.getElem?_eq_getElem h, h2]
  rfl
section
variable {f : FS Cnt} {A : Option Addr} {c : Nat} {w : World}
theorem find_at (hr : Rising f) (a : ByteArray) (hl : f.length ≤ 900000) (hC : Kd.C k48 w A (ofFS f).length (ofFS f)) (hc : (ofFS f).length ≤ c) :
    Calls Try.prog 52 #[.slice A (ofFS f).length c, .string a] w fun e w' => e = .returned (.tuple #[.int .i64 (pos (nm a) f : Nat), .bool (get (nm a) f).isSome]) ∧ Drawn0 w w' :=
  thermographref01_find.calls (f.length + 1) A c (ofFS f) a _ _ w hC hc (find_f hr a (Nat.le_trans hl (by decide)) (Nat.lt_succ_self _))
theorem with_at (hr : Rising f) (a s : ByteArray) (hl : f.length ≤ 900000) (hC : Kd.C k48 w A (ofFS f).length (ofFS f)) (hc : (ofFS f).length ≤ c) :
    Calls Try.prog 53 #[.slice A (ofFS f).length c, .agg #[.string a, .string s]] w fun e w' => ∃ v : Value, e = .returned v ∧ Kd.R k48 48 w' w.heap.size (fun _ => True) v (ofFS (put (nm a) s.data.toList f)) ∧ Below w.heap.size w w' :=
  thermographref01_with.calls (f.length + 1) A c (ofFS f) a s _ w hC hc (with_f hr a s hl (Nat.lt_succ_self _))
theorem without_at (hr : Rising f) (a : ByteArray) (hl : f.length ≤ 900000) (hg : get (nm a) f ≠ none) (hC : Kd.C k48 w A (ofFS f).length (ofFS f)) (hc : (ofFS f).length ≤ c) :
    Calls Try.prog 54 #[.slice A (ofFS f).length c, .int .i64 (pos (nm a) f : Nat)] w fun e w' => ∃ v : Value, e = .returned v ∧ Kd.R k48 48 w' w.heap.size (fun _ => True) v (ofFS (del (nm a) f)) ∧ Below w.heap.size w w' := by
  cases h : get (nm a) f with
  | none => exact absurd h hg
  | some v =>
    obtain ⟨hlt, _⟩ := get_some_pos hr h
    refine thermographref01_without.calls A c (ofFS f) _ _ w hC hc ?_
    rw [(del_pos hr hg).1]
    exact without_f hlt (Nat.le_trans hl (by decide))
set_option maxHeartbeats 8000000 in
set_option maxRecDepth 100000 in
theorem done_app_new (hr : Rising f) (a s : ByteArray) (hl : f.length ≤ 900000) (ha : a.size ≤ maxLen) (hs : s.size ≤ 68719476736) (hg : get (nm a) f = none) (hC : Kd.C k48 w A (ofFS f).length (ofFS f)) (hc : (ofFS f).length ≤ c) :
    Calls Try.prog 43 #[.slice A (ofFS f).length c, .agg #[.int .i64 0, .string a, .string s]] w fun e w' => ∃ v : Value, e = .returned v ∧ Kd.R k48 48 w' w.heap.size (fun _ => True) v (ofFS ((Ch.app a s).go s.size f)) ∧ Below w.heap.size w w' := by
  have HR := Aside0.mk hr
  have HL := Aside0.mk hc
  have HC := Aside0.mk hC
  have HI : (get (nm a) f).isSome = false := by rw [hg]; rfl
  have HG := Aside0.mk (show (Ch.app a s).go s.size f = put (nm a) ((({ data := #[] } : ByteArray) ++ s).data.toList) f from by
    rw [Ch.go, hg]
    congr 1
    rw [List.take_of_length_le (by rw [Array.length_toList]; exact Nat.le_refl _)]
    simp)
  clear hC hr hc hg
  go_enter Try.func43, Try.ntmps43
  go_wp2_with (first
    | ((with_reducible refine gate_dst (N := 3) rfl ?_); refine box_event ?hg (N := 3) ?hd (cs := #[.int .i64 0, .string a, .string s]) (t := 72) ?hr ?_; (case hd => rfl); (case hg => rfl); (case hr => first | (go_simp; done) | (go_simp; rfl)); intro gb hgb w1 hbox hb; have HB := Aside0.mk hb; have BK := Aside0.mk hbox; have z0 : w1.cell? ⟨gb, 0, none⟩ = some (.int .i64 0) := (blk_cell hbox 0).trans rfl; have z1 : w1.cell? ⟨gb, 1, none⟩ = some (.string a) := (blk_cell hbox 1).trans rfl; have z2 : w1.cell? ⟨gb, 2, none⟩ = some (.string s) := (blk_cell hbox 2).trans rfl; clear hb hbox hgb)
    | (go_at_call 52; go_loud ((with_reducible refine (find_at HR.out a hl (Kd.C_below HC.out HB.out) HL.out).mono ?_); rintro e w2 ⟨rfl, ⟨nd, rfl⟩⟩; rw [HI]))
    | (go_at_call 53; go_loud ((with_reducible refine (with_at HR.out a _ hl (Kd.C_drewN (Kd.C_below HC.out HB.out) _) HL.out).mono ?_); rintro e w3 ⟨v3, rfl, hR3, hB3⟩; have HR3 := Aside0.mk hR3; have HB3 := Aside0.mk hB3; clear hR3 hB3)))
  go_ret
  rw [HG.out]
  exact ⟨_, rfl, Kd.R_mono (Kd.R_lower HR3.out (below_size (pw_below_drewN HB.out nd))) (fun _ _ => trivial), below_step (pw_below_drewN HB.out nd) HB3.out⟩
set_option maxHeartbeats 8000000 in
set_option maxRecDepth 100000 in
theorem done_app_more (hr : Rising f) (a s : ByteArray) (hl : f.length ≤ 900000) (ha : a.size ≤ maxLen) (hs : s.size ≤ 68719476736) {v : Cnt} (hv : v.length ≤ 68719476736) (hg : get (nm a) f = some v) (hC : Kd.C k48 w A (ofFS f).length (ofFS f)) (hc : (ofFS f).length ≤ c) :
    Calls Try.prog 43 #[.slice A (ofFS f).length c, .agg #[.int .i64 0, .string a, .string s]] w fun e w' => ∃ v : Value, e = .returned v ∧ Kd.R k48 48 w' w.heap.size (fun _ => True) v (ofFS ((Ch.app a s).go s.size f)) ∧ Below w.heap.size w w' := by
  have HR := Aside0.mk hr
  have HL := Aside0.mk hc
  obtain ⟨hlt, hat⟩ := get_some_pos hr hg
  have hlt2 : ((pos (nm a) f : Nat) : Int) < ((ofFS f).length : Int) := by rw [ofFS_length]; exact Int.ofNat_lt.2 hlt
  obtain ⟨ad, rfl, _, _⟩ := at_T48 hC (pos (nm a) f : Nat) (Int.natCast_nonneg _) hlt2
  have HC := Aside0.mk hC
  have HRD := Aside0.mk (rd_pos hr hg)
  have HLT := Aside0.mk hlt2
  have p1 := eq_true (Int.natCast_nonneg (pos (nm a) f))
  have q1 := eq_true hlt2
  have HI : (get (nm a) f).isSome = true := by rw [hg]; rfl
  have hvs : (⟨v.toArray⟩ : ByteArray).size ≤ 68719476736 := by rw [ByteArray.size, List.size_toArray]; exact hv
  have HG := Aside0.mk (show (Ch.app a s).go s.size f = put (nm a) (((⟨v.toArray⟩ : ByteArray) ++ s).data.toList) f from by
    rw [Ch.go, hg]
    congr 1
    rw [List.take_of_length_le (by rw [Array.length_toList]; exact Nat.le_refl _)]
    simp)
  clear hC hr hc hg hat hlt hlt2 hv
  go_enter Try.func43, Try.ntmps43
  go_wp2_with (first
    | ((with_reducible refine gate_dst (N := 3) rfl ?_); refine box_event ?hg (N := 3) ?hd (cs := #[.int .i64 0, .string a, .string s]) (t := 72) ?hr ?_; (case hd => rfl); (case hg => rfl); (case hr => first | (go_simp; done) | (go_simp; rfl)); intro gb hgb w1 hbox hb; have HB := Aside0.mk hb; have BK := Aside0.mk hbox; have z0 : w1.cell? ⟨gb, 0, none⟩ = some (.int .i64 0) := (blk_cell hbox 0).trans rfl; have z1 : w1.cell? ⟨gb, 1, none⟩ = some (.string a) := (blk_cell hbox 1).trans rfl; have z2 : w1.cell? ⟨gb, 2, none⟩ = some (.string s) := (blk_cell hbox 2).trans rfl; obtain ⟨ad2, e2, y0, y1⟩ := at_T48 (Kd.C_below HC.out hb) (pos (nm a) f : Nat) (Int.natCast_nonneg _) HLT.out; cases e2; rw [HRD.out, Int.toNat_natCast] at y1; rw [Int.toNat_natCast] at y0; clear hb hbox hgb)
    | (go_at_call 52; go_loud ((with_reducible refine (find_at HR.out a hl (Kd.C_below HC.out HB.out) HL.out).mono ?_); rintro e w2 ⟨rfl, ⟨nd, rfl⟩⟩; rw [HI]))
    | (go_at_call 53; go_loud ((with_reducible refine (with_at HR.out a _ hl (Kd.C_drewN (Kd.C_below HC.out HB.out) _) HL.out).mono ?_); rintro e w3 ⟨v3, rfl, hR3, hB3⟩; have HR3 := Aside0.mk hR3; have HB3 := Aside0.mk hB3; clear hR3 hB3)))
  go_ret
  rw [HG.out]
  exact ⟨_, rfl, Kd.R_mono (Kd.R_lower HR3.out (below_size (pw_below_drewN HB.out nd))) (fun _ _ => trivial), below_step (pw_below_drewN HB.out nd) HB3.out⟩
set_option maxHeartbeats 8000000 in
set_option maxRecDepth 100000 in
theorem done_rem_none (hr : Rising f) (a s : ByteArray) (hl : f.length ≤ 900000) (ha : a.size ≤ maxLen) (hg : get (nm a) f = none) (hC : Kd.C k48 w A (ofFS f).length (ofFS f)) (hc : (ofFS f).length ≤ c) :
    Calls Try.prog 43 #[.slice A (ofFS f).length c, .agg #[.int .i64 2, .string a, .string s]] w fun e w' => e = .returned (.slice A (ofFS f).length c) ∧ Below w.heap.size w w' := by
  have HR := Aside0.mk hr
  have HL := Aside0.mk hc
  have HC := Aside0.mk hC
  have HI : (get (nm a) f).isSome = false := by rw [hg]; rfl
  clear hC hr hc hg
  go_enter Try.func43, Try.ntmps43
  go_wp2_with (first
    | ((with_reducible refine gate_dst (N := 3) rfl ?_); refine box_event ?hg (N := 3) ?hd (cs := #[.int .i64 2, .string a, .string s]) (t := 72) ?hr ?_; (case hd => rfl); (case hg => rfl); (case hr => first | (go_simp; done) | (go_simp; rfl)); intro gb hgb w1 hbox hb; have HB := Aside0.mk hb; have BK := Aside0.mk hbox; have z0 : w1.cell? ⟨gb, 0, none⟩ = some (.int .i64 2) := (blk_cell hbox 0).trans rfl; have z1 : w1.cell? ⟨gb, 1, none⟩ = some (.string a) := (blk_cell hbox 1).trans rfl; have z2 : w1.cell? ⟨gb, 2, none⟩ = some (.string s) := (blk_cell hbox 2).trans rfl; clear hb hbox hgb)
    | (go_at_call 52; go_loud ((with_reducible refine (find_at HR.out a hl (Kd.C_below HC.out HB.out) HL.out).mono ?_); rintro e w2 ⟨rfl, ⟨nd, rfl⟩⟩; rw [HI])))
  go_ret
  exact ⟨rfl, pw_below_drewN HB.out nd⟩
set_option maxHeartbeats 8000000 in
set_option maxRecDepth 100000 in
theorem done_rem_some (hr : Rising f) (a s : ByteArray) (hl : f.length ≤ 900000) (ha : a.size ≤ maxLen) (hg : get (nm a) f ≠ none) (hC : Kd.C k48 w A (ofFS f).length (ofFS f)) (hc : (ofFS f).length ≤ c) :
    Calls Try.prog 43 #[.slice A (ofFS f).length c, .agg #[.int .i64 2, .string a, .string s]] w fun e w' => ∃ v : Value, e = .returned v ∧ Kd.R k48 48 w' w.heap.size (fun _ => True) v (ofFS (del (nm a) f)) ∧ Below w.heap.size w w' := by
  have HR := Aside0.mk hr
  have HL := Aside0.mk hc
  have HC := Aside0.mk hC
  have HI : (get (nm a) f).isSome = true := by cases h : get (nm a) f with | none => exact absurd h hg | some v => rfl
  have HG := Aside0.mk hg
  clear hC hr hc hg
  go_enter Try.func43, Try.ntmps43
  go_wp2_with (first
    | ((with_reducible refine gate_dst (N := 3) rfl ?_); refine box_event ?hg (N := 3) ?hd (cs := #[.int .i64 2, .string a, .string s]) (t := 72) ?hr ?_; (case hd => rfl); (case hg => rfl); (case hr => first | (go_simp; done) | (go_simp; rfl)); intro gb hgb w1 hbox hb; have HB := Aside0.mk hb; have BK := Aside0.mk hbox; have z0 : w1.cell? ⟨gb, 0, none⟩ = some (.int .i64 2) := (blk_cell hbox 0).trans rfl; have z1 : w1.cell? ⟨gb, 1, none⟩ = some (.string a) := (blk_cell hbox 1).trans rfl; have z2 : w1.cell? ⟨gb, 2, none⟩ = some (.string s) := (blk_cell hbox 2).trans rfl; clear hb hbox hgb)
    | (go_at_call 52; go_loud ((with_reducible refine (find_at HR.out a hl (Kd.C_below HC.out HB.out) HL.out).mono ?_); rintro e w2 ⟨rfl, ⟨nd, rfl⟩⟩; rw [HI]))
    | (go_at_call 54; go_loud ((with_reducible refine (without_at HR.out a hl HG.out (Kd.C_drewN (Kd.C_below HC.out HB.out) _) HL.out).mono ?_); rintro e w3 ⟨v3, rfl, hR3, hB3⟩; have HR3 := Aside0.mk hR3; have HB3 := Aside0.mk hB3; clear hR3 hB3)))
  go_ret
  exact ⟨_, rfl, Kd.R_mono (Kd.R_lower HR3.out (below_size (pw_below_drewN HB.out nd))) (fun _ _ => trivial), below_step (pw_below_drewN HB.out nd) HB3.out⟩
set_option maxHeartbeats 8000000 in
set_option maxRecDepth 100000 in
theorem done_ren_same (hr : Rising f) (a : ByteArray) (hl : f.length ≤ 900000) (ha : a.size ≤ maxLen) (hg : get (nm a) f ≠ none) (hC : Kd.C k48 w A (ofFS f).length (ofFS f)) (hc : (ofFS f).length ≤ c) :
    Calls Try.prog 43 #[.slice A (ofFS f).length c, .agg #[.int .i64 1, .string a, .string a]] w fun e w' => e = .returned (.slice A (ofFS f).length c) ∧ Below w.heap.size w w' := by
  have HR := Aside0.mk hr
  have HL := Aside0.mk hc
  have HC := Aside0.mk hC
  have HI : (get (nm a) f).isSome = true := by cases h : get (nm a) f with | none => exact absurd h hg | some v => rfl
  clear hC hr hc hg
  go_enter Try.func43, Try.ntmps43
  go_wp2_with (first
    | ((with_reducible refine gate_dst (N := 3) rfl ?_); refine box_event ?hg (N := 3) ?hd (cs := #[.int .i64 1, .string a, .string a]) (t := 72) ?hr ?_; (case hd => rfl); (case hg => rfl); (case hr => first | (go_simp; done) | (go_simp; rfl)); intro gb hgb w1 hbox hb; have HB := Aside0.mk hb; have BK := Aside0.mk hbox; have z0 : w1.cell? ⟨gb, 0, none⟩ = some (.int .i64 1) := (blk_cell hbox 0).trans rfl; have z1 : w1.cell? ⟨gb, 1, none⟩ = some (.string a) := (blk_cell hbox 1).trans rfl; have z2 : w1.cell? ⟨gb, 2, none⟩ = some (.string a) := (blk_cell hbox 2).trans rfl; clear hb hbox hgb)
    | (go_at_call 52; go_loud ((with_reducible refine (find_at HR.out a hl (Kd.C_below HC.out HB.out) HL.out).mono ?_); rintro e w2 ⟨rfl, ⟨nd, rfl⟩⟩; rw [HI])))
  go_ret
  exact ⟨rfl, pw_below_drewN HB.out nd⟩
end
def Ed.T12 : Bool × List (List Nat × List Nat) := (true, [([], []), ([], []), ([0, 1], [0, 1]), ([], []), ([3], [3]), ([], []), ([4, 5], [4, 5]), ([2, 6, 2], [2, 6]), ([7, 7, 0, 1, 2, 3, 4, 5, 6, 7], [7])])
def Ed.B12 : List Nat := [0, 0, 3, 0, 8, 0, 56, 127, 255]
theorem Ed.tab12 : rtab .any (opsOf Try.f43 12) = Ed.T12 := by kernel_rfl
theorem Ed.bits12 : waitsOk Ed.T12.2 Ed.B12 = true := by kernel_rfl
section
variable {f : FS Cnt} {A : Option Addr} {c : Nat} {w : World}
set_option maxHeartbeats 8000000 in
set_option maxRecDepth 100000 in
theorem done_ren_other (hr : Rising f) (a b : ByteArray) (hl : f.length ≤ 900000) (ha : a.size ≤ maxLen) (hb : b.size ≤ maxLen) (hab : a ≠ b) {v : Cnt} (hg : get (nm a) f = some v) (hC : Kd.C k48 w A (ofFS f).length (ofFS f)) (hc : (ofFS f).length ≤ c) :
    Calls Try.prog 43 #[.slice A (ofFS f).length c, .agg #[.int .i64 1, .string a, .string b]] w fun e w' => ∃ v : Value, e = .returned v ∧ Kd.R k48 48 w' w.heap.size (fun _ => True) v (ofFS ((Ch.ren a b).go 0 f)) ∧ Below w.heap.size w w' := by
  have HR := Aside0.mk hr
  have HL := Aside0.mk hc
  obtain ⟨hlt, hat⟩ := get_some_pos hr hg
  have hlt2 : ((pos (nm a) f : Nat) : Int) < ((ofFS f).length : Int) := by rw [ofFS_length]; exact Int.ofNat_lt.2 hlt
  obtain ⟨ad, rfl, _, _⟩ := at_T48 hC (pos (nm a) f : Nat) (Int.natCast_nonneg _) hlt2
  have HC := Aside0.mk hC
  have HRD0 := Aside0.mk (rd_pos hr hg)
  have HLT := Aside0.mk hlt2
  have p1 := eq_true (Int.natCast_nonneg (pos (nm a) f))
  have q1 := eq_true hlt2
  have HI : (get (nm a) f).isSome = true := by rw [hg]; rfl
  have HG := Aside0.mk (show get (nm a) f ≠ none from by rw [hg]; simp)
  have hbq : (a.toList == b.toList) = false := by
    rw [beq_eq_false_iff_ne]
    intro e
    rw [ByteArray.toList_eq, ByteArray.toList_eq] at e
    exact hab (ByteArray.ext (Array.ext' e))
  have HGO := Aside0.mk (show (Ch.ren a b).go 0 f = put (nm b) ((⟨v.toArray⟩ : ByteArray).data.toList) (del (nm a) f) from by
    rw [Ch.go, hg]
    rfl)
  have HRD := Aside0.mk (hr.del (nm a))
  have HLD := Aside0.mk (show (del (nm a) f).length ≤ 900000 from Nat.le_trans (del_length _ _) hl)
  clear hC hr hc hg hat hlt hlt2 hab
  go_enter Try.func43, Try.ntmps43
  go_upto_region 12 with (first
    | ((with_reducible refine gate_dst (N := 3) rfl ?_); refine box_event ?hg (N := 3) ?hd (cs := #[.int .i64 1, .string a, .string b]) (t := 72) ?hr ?_; (case hd => rfl); (case hg => rfl); (case hr => first | (go_simp; done) | (go_simp; rfl)); intro gb hgb w1 hbox hb; have HB := Aside0.mk hb; have BK := Aside0.mk hbox; have z0 : w1.cell? ⟨gb, 0, none⟩ = some (.int .i64 1) := (blk_cell hbox 0).trans rfl; have z1 : w1.cell? ⟨gb, 1, none⟩ = some (.string a) := (blk_cell hbox 1).trans rfl; have z2 : w1.cell? ⟨gb, 2, none⟩ = some (.string b) := (blk_cell hbox 2).trans rfl; obtain ⟨ad2, e2, y0, y1⟩ := at_T48 (Kd.C_below HC.out hb) (pos (nm a) f : Nat) (Int.natCast_nonneg _) HLT.out; cases e2; rw [HRD0.out, Int.toNat_natCast] at y1; rw [Int.toNat_natCast] at y0; clear hb hbox hgb)
    | (go_at_call 52; go_loud ((with_reducible refine (find_at HR.out a hl (Kd.C_below HC.out HB.out) HL.out).mono ?_); rintro e w2 ⟨rfl, ⟨nd, rfl⟩⟩; rw [HI])))
  have HC1 := Aside0.mk (Kd.C_drew (Kd.C_drewN (Kd.C_below HC.out HB.out) nd))
  have HBK1 := Aside0.mk (blk_drew (blk_drewN BK.out nd))
  refine start_ (n := 9) (S := fun w' => w'.cell? ⟨gb, 2, none⟩ = some (.string b)) (ds := []) #[false, false, false, false, false, false, false, false, false] (by kernel_rfl) rfl rfl (z2) (fun hHeld => ?_)
  refine with_tabW Ed.tab12 Ed.bits12 (fun HT_ HW_ => ?_)
  refine pure_ (i := 0) (N := some 52) (v := ?_) (a' := ?_) #[true, false, false, false, false, false, false, false, false] rfl rfl (any_of HT_.out (by kernel_rfl)) (fun _ _ _ h => h) (Or.inl ⟨by rfl, ?_⟩) ?_ ?_
  rotate_left
  · intro w'
    go_simp
    with_reducible rfl
  rotate_left
  · simp only [Act.put, List.setIfInBounds_toArray, List.set_cons_zero, List.set_cons_succ, i64_w, i32_w]
    rfl
  refine pure_ (i := 1) (N := some 53) (v := ?_) (a' := ?_) #[true, true, false, false, false, false, false, false, false] rfl rfl (any_of HT_.out (by kernel_rfl)) (fun _ _ _ h => h) (Or.inl ⟨by rfl, ?_⟩) ?_ ?_
  rotate_left
  · intro w'
    go_simp
    with_reducible rfl
  rotate_left
  · simp only [Act.put, List.setIfInBounds_toArray, List.set_cons_zero, List.set_cons_succ, i64_w, i32_w]
    rfl
  refine pure_ (i := 3) (N := some 55) (v := ?_) (a' := ?_) #[true, true, false, true, false, false, false, false, false] rfl rfl (any_of HT_.out (by kernel_rfl)) (fun _ _ _ h => h) (Or.inl ⟨by rfl, ?_⟩) ?_ ?_
  rotate_left
  · intro w'
    go_simp
    with_reducible rfl
  rotate_left
  · simp only [Act.put, List.setIfInBounds_toArray, List.set_cons_zero, List.set_cons_succ, i64_w, i32_w]
    rfl
  refine pure_ (i := 5) (N := some 57) (v := ?_) (a' := ?_) #[true, true, false, true, false, true, false, false, false] rfl rfl (any_of HT_.out (by kernel_rfl)) (fun _ _ _ h => h) (Or.inl ⟨by rfl, ?_⟩) ?_ ?_
  rotate_left
  · intro w'
    go_simp
    with_reducible rfl
  rotate_left
  · simp only [Act.put, List.setIfInBounds_toArray, List.set_cons_zero, List.set_cons_succ, i64_w, i32_w]
    rfl
  refine take_ (i := 4) (N := some 56) (v := ?_) (a' := ?_) #[true, true, false, true, true, true, false, false, false] rfl rfl (take_ofW HT_.out HW_.out (by kernel_rfl)) (fun _ _ _ h => h) (Or.inl ⟨by rfl, ?_⟩) hHeld ?_ ?_
  rotate_left
  · intro w' s0
    go_simp
    with_reducible rfl
  rotate_left
  · simp only [Act.put, List.setIfInBounds_toArray, List.set_cons_zero, List.set_cons_succ, i64_w, i32_w]
    rfl
  refine pure_ (i := 6) (N := some 58) (v := ?_) (a' := ?_) #[true, true, false, true, true, true, true, false, false] rfl rfl (any_of HT_.out (by kernel_rfl)) (fun _ _ _ h => h) (Or.inl ⟨by rfl, ?_⟩) ?_ ?_
  rotate_left
  · intro w'
    go_simp
    with_reducible rfl
  rotate_left
  · simp only [Act.put, List.setIfInBounds_toArray, List.set_cons_zero, List.set_cons_succ, i64_w, i32_w]
    rfl
  refine one_ (i := 2) (N := some 54) #[true, true, true, true, true, true, true, false, false] rfl rfl (one_of HT_.out (by kernel_rfl)) (by decide) (fun K hK => ?_)
  refine goes_ Try.func54 (by kernel_rfl) rfl #[.slice (some ad) (ofFS f).length c, .int .i64 (pos (nm a) f : Nat)] (by rfl) rfl rfl (by simp only [List.map_toArray, List.map_cons, List.map_nil]; rfl) ?_
  with_reducible refine (without_at HR.out a hl HG.out HC1.out HL.out).mono ?_
  rintro e w3 ⟨v3, rfl, hR3, hB3⟩
  refine ⟨_, rfl, ?_⟩
  obtain ⟨A3, c3, e3⟩ := Kd.R_slice hR3
  subst e3
  have HR3 := Aside0.mk hR3
  have HB3 := Aside0.mk hB3
  have y2 : w3.cell? ⟨gb, 2, none⟩ = some (.string b) := (blk_cell (blk_below HBK1.out hB3) 2).trans rfl
  clear hR3 hB3
  refine hK.out _ _ (y2) (fun hHeld => ?_)
  clear hK K
  refine norm_ (a' := ?_) ?_ ?_
  rotate_left
  · show Act.put _ (some 54) _ = _
    simp only [Act.put, List.setIfInBounds_toArray, List.set_cons_zero, List.set_cons_succ, i64_w, i32_w]
    rfl
  refine one_ (i := 7) (N := some 59) #[true, true, true, true, true, true, true, true, false] rfl rfl (one_of HT_.out (by kernel_rfl)) (by decide) (fun K hK => ?_)
  refine goes_ Try.func53 (by kernel_rfl) rfl #[.slice A3 (ofFS (del (nm a) f)).length c3, .agg #[.string b, .string ⟨v.toArray⟩]] (by rfl) rfl rfl (by simp only [List.map_toArray, List.map_cons, List.map_nil]; rfl) ?_
  with_reducible refine (with_at HRD.out b ⟨v.toArray⟩ HLD.out (Kd.R_reads' HR3.out).2.2 (Kd.R_reads' HR3.out).2.1).mono ?_
  rintro e w4 ⟨v4, rfl, hR4, hB4⟩
  refine ⟨_, rfl, ?_⟩
  have HR4 := Aside0.mk hR4
  have HB4 := Aside0.mk hB4
  have y4 : w4.cell? ⟨gb, 2, none⟩ = some (.string b) := (blk_cell (blk_below (blk_below HBK1.out HB3.out) hB4) 2).trans rfl
  clear hR4 hB4
  refine hK.out _ _ (y4) (fun hHeld => ?_)
  clear hK K
  refine norm_ (a' := ?_) ?_ ?_
  rotate_left
  · show Act.put _ (some 59) _ = _
    simp only [Act.put, List.setIfInBounds_toArray, List.set_cons_zero, List.set_cons_succ, i64_w, i32_w]
    rfl
  refine pure_ (i := 8) (N := some 4) (v := ?_) (a' := ?_) #[true, true, true, true, true, true, true, true, true] rfl rfl (any_of HT_.out (by kernel_rfl)) (fun _ _ _ h => h) (Or.inl ⟨by rfl, ?_⟩) ?_ ?_
  rotate_left
  · intro w'
    go_simp
    with_reducible rfl
  rotate_left
  · simp only [Act.put, List.setIfInBounds_toArray, List.set_cons_zero, List.set_cons_succ, i64_w, i32_w]
    rfl
  refine done_ (done_of HT_.out (by kernel_rfl)) ?_
  go_wp2
  go_ret
  rw [HGO.out]
  have hb3 := below_step (below_drew (pw_below_drewN HB.out nd)) HB3.out
  exact ⟨_, rfl, Kd.R_mono (Kd.R_lower HR4.out (below_size hb3)) (fun _ _ => trivial), below_step hb3 HB4.out⟩
end
end Go.Proofs.Ytlngljhinboglaa.DkE
