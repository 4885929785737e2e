/- A disk's files in a walk's memory: maps of bytes that share what they hold, in one assertion.
   What the calls of a disk's inner functions come to: its changes, all bytes, a copy. -/
import Derived.Test.YtlngljhinboglaaProg
import Derived.Test.YtlngljhinboglaaZDiskSynced0
import Derived.Test.YtlngljhinboglaaZDiskSynced1
import Derived.Lib.AppendStr
import Derived.Maps.OwnSet
import Derived.Test.YtlngljhinboglaaWTab
import Derived.Maps.RangeWalk
import Derived.Shelf.SlMaps.Clone
import Derived.WalkSpells
namespace Go.Proofs.Ytlngljhinboglaa.DkS
open Go.RowKit Go.WideMaps Go.ChangeMaps Go.MapKept Go.Maps Go.Lib Go.Proofs.YtlngljhinboglaaW.PrintWords Go.Proofs.YtlngljhinboglaaW.PrintLast Go.Proofs.YtlngljhinboglaaW.PrintMore Go.Proofs.Ytlngljhinboglaa.Sl Go.Proofs.Ytlngljhinboglaa.DkP
set_option linter.unusedVariables false
set_option linter.unusedSimpArgs false
theorem law : Keyed Try.prog 9 := string_keyed Try.underlying9
/-- The bytes behind a slice value, in blocks of F. -/
def Cont (w : World) (F : Nat → Prop) (v : Value) (s : Cnt) : Prop :=
  (v = .slice none 0 0 ∧ s = []) ∨ ∃ g c cs, v = .slice (some ⟨g, 0, none⟩) s.length c ∧ s.length ≤ c ∧ c ≤ maxLen ∧ F g ∧ w.heap[g]? = some (.cells cs 5 (0, 0)) ∧ cs.toList.take s.length = s.map (fun b => Value.int .u8 b.toNat)
theorem Cont.loc {w w' : World} {F F' : Nat → Prop} {v : Value} {s : Cnt} (h : Cont w F v s) (hF : ∀ k, F k → F' k) (hw : ∀ k cs, F k → w.heap[k]? = some (.cells cs 5 (0, 0)) → w'.heap[k]? = w.heap[k]?) : Cont w' F' v s := by
  rcases h with h | ⟨g, c, cs, h1, h2, h3, h4, h5, h6⟩
  · exact .inl h
  · exact .inr ⟨g, c, cs, h1, h2, h3, hF g h4, (hw g cs h4 h5).trans h5, h6⟩
theorem Cont.nil (w : World) (F : Nat → Prop) : Cont w F (.slice none 0 0) [] := .inl ⟨rfl, rfl⟩
theorem Cont.form {w : World} {F : Nat → Prop} {v : Value} {s : Cnt} (h : Cont w F v s) : ∃ A c, v = .slice A s.length c ∧ s.length ≤ c ∧ c ≤ maxLen ∧ (A = none → c = 0) := by
  rcases h with ⟨rfl, rfl⟩ | ⟨g, c, cs, rfl, h2, h3, _⟩
  · exact ⟨none, 0, rfl, Nat.le_refl _, by simp [maxLen], fun _ => rfl⟩
  · exact ⟨some ⟨g, 0, none⟩, c, rfl, h2, h3, fun h => by cases h⟩
theorem Cont.clip {w : World} {F : Nat → Prop} {A : Option Addr} {n c : Nat} {s : Cnt} (h : Cont w F (.slice A n c) s) : n = s.length ∧ Cont w F (.slice A n n) s := by
  rcases h with ⟨h1, rfl⟩ | ⟨g, c', cs, h1, h2, h3, h4, h5, h6⟩
  · injection h1 with h1 h2 h3
    subst h1 h2 h3
    exact ⟨rfl, .inl ⟨rfl, rfl⟩⟩
  · injection h1 with h1 h2' h3'
    subst h1 h2' h3'
    exact ⟨rfl, .inr ⟨g, _, cs, rfl, Nat.le_refl _, by omega, h4, h5, h6⟩⟩
theorem strOf (s : Cnt) : strOfNums (s.map fun b => (b.toNat : Int)) = ⟨s.toArray⟩ := by
  unfold strOfNums
  congr 1
  rw [List.map_map]
  congr 1
  conv => rhs; rw [← List.map_id s]
  apply List.map_congr_left
  intro b _
  simp
theorem Cont.string {w : World} {F : Nat → Prop} {v : Value} {s : Cnt} (h : Cont w F v s) : (convert 59 9 v).run Try.prog w = .ok (.string ⟨s.toArray⟩) w := by
  rcases h with ⟨rfl, rfl⟩ | ⟨g, c, cs, rfl, h2, h3, h4, h5, h6⟩
  · exact run_convert_bytes_nil w 59 5 Try.underlying59 Try.underlying5 0 0 9 Try.underlying9
  · rw [← strOf]
    refine run_convert_bytes_arg w 59 5 Try.underlying59 Try.underlying5 g 0 s.length c (s.map fun b => (b.toNat : Int)) (by simp) (fun i hi => ?_) 9 Try.underlying9
    have e := congrArg (fun l => l[i]?) h6
    simp only [List.getElem?_take_of_lt hi, List.getElem?_map, List.getElem?_eq_getElem hi, Option.map_some, Array.getElem?_toList] at e
    rw [Nat.zero_add]
    simp [World.cell?, h5, e, List.getD, List.getElem?_eq_getElem hi]
/-- Reads as itself. -/
def Rv (v : Value) : Option (DataW Value × List MemPlace) := some (.held v, [])
def MapAt (w : World) (F : Nat → Prop) (m : Nat × FS Cnt) : Prop := F m.1 ∧ ∃ E : FS (Value × Cnt), mv (·.2) E = m.2 ∧ w.ownsMap Try.prog 9 Rv m.1 E.length (mapD (mv (·.1) E)) ∧ ∀ e ∈ E, Cont w F e.2.1 e.2.2
theorem owns_move {w w' : World} {b n : Nat} {D : DataW Value} (h : w.ownsMap Try.prog 9 Rv b n D) (hw : w'.heap[b]? = w.heap[b]?) : w'.ownsMap Try.prog 9 Rv b n D := by
  obtain ⟨es, clock, hb, r⟩ := h
  exact ⟨es, clock, hw.trans hb, r⟩
theorem owns_isMap {w : World} {b n : Nat} {D : DataW Value} (h : w.ownsMap Try.prog 9 Rv b n D) : ∃ es clock, w.heap[b]? = some (.map es clock) := by
  obtain ⟨es, clock, hb, r⟩ := h
  exact ⟨es, clock, hb⟩
/-- The bound may be the number of the entries. -/
theorem owns_size {w : World} {b n : Nat} {l : FS Value} (h : w.ownsMap Try.prog 9 Rv b n (mapD l)) {k : Nat} (hk : k = l.length) : w.ownsMap Try.prog 9 Rv b k (mapD l) := by
  obtain ⟨es, clock, hb, F, hs, hD⟩ := h
  refine ⟨es, clock, hb, F, ?_, hD⟩
  have e1 := hD
  unfold mapD at e1
  injection e1 with e1
  have e2 := congrArg List.length e1
  rw [length_sorted] at e2
  simp only [List.length_map, Array.length_toList] at e2
  rw [hk, e2]
  exact Nat.le_refl _
theorem MapAt.loc {w w' : World} {F F' : Nat → Prop} {m : Nat × FS Cnt} (h : MapAt w F m) (hF : ∀ k, F k → F' k) (hw : ∀ k, F k → k ≠ m.1 → (∃ cs, w.heap[k]? = some (.cells cs 5 (0, 0))) → w'.heap[k]? = w.heap[k]?) (hm : w'.heap[m.1]? = w.heap[m.1]?) : MapAt w' F' m := by
  obtain ⟨h1, E, h2, h3, h4⟩ := h
  refine ⟨hF _ h1, E, h2, owns_move h3 hm, fun e he => (h4 e he).loc hF fun k cs hk hc => hw k hk ?_ ⟨cs, hc⟩⟩
  rintro rfl
  obtain ⟨es, clock, hb⟩ := owns_isMap h3
  rw [hb] at hc
  cases hc
/-- Files in maps, and values that are held besides. -/
def Store (ms : List (Nat × FS Cnt)) (hs : List (Value × Cnt)) : Asn := ⟨fun B w F => (ms.map Prod.fst).Nodup ∧ (∀ m ∈ ms, MapAt w F m) ∧ ∀ h ∈ hs, Cont w F h.1 h.2, fun ⟨h1, h2, h3⟩ hw => ⟨h1, fun m hm => (h2 m hm).loc (fun _ h => h) (fun k hk _ _ => hw k hk) (hw _ (h2 m hm).1), fun h hh => (h3 h hh).loc (fun _ h => h) fun k _ hk _ => hw k hk⟩⟩
section
variable {w0 w : World} {L : List Asn} {ms ms' : List (Nat × FS Cnt)} {hs hs' : List (Value × Cnt)} {b : Nat} {f : FS Cnt} {v : Value} {s : Cnt}
theorem Store.start (h : Sat w0 w L) : Sat w0 w (Store [] [] :: L) := ⟨h.below, fun _ => False, ⟨List.nodup_nil, (fun _ h => by cases h), (fun _ h => by cases h)⟩, fun _ hk => hk.elim, h.seps.mono (fun _ hk => ⟨hk, fun h => h⟩)⟩
theorem Store.sub (h : Sat w0 w (Store ms hs :: L)) (hn : (ms'.map Prod.fst).Nodup) (h1 : ∀ m ∈ ms', m ∈ ms) (h2 : ∀ x ∈ hs', x ∈ hs) : Sat w0 w (Store ms' hs' :: L) :=
  h.imp fun G hg => ⟨hn, fun m hm => hg.2.1 m (h1 m hm), fun x hx => hg.2.2 x (h2 x hx)⟩
theorem Store.nodup (h : Sat w0 w (Store ms hs :: L)) : (ms.map Prod.fst).Nodup := by
  obtain ⟨G, hg, _⟩ := h.get
  exact hg.1
theorem Store.lt (h : Sat w0 w (Store ms hs :: L)) {m : Nat × FS Cnt} (hm : m ∈ ms) : w0.heap.size ≤ m.1 ∧ m.1 < w.heap.size := by
  obtain ⟨G, hg, hb⟩ := h.get
  exact hb _ (hg.2.1 m hm).1
theorem Store.isMap (h : Sat w0 w (Store ms hs :: L)) {m : Nat × FS Cnt} (hm : m ∈ ms) : ∃ es clock, w.heap[m.1]? = some (.map es clock) := by
  obtain ⟨G, hg, hb⟩ := h.get
  obtain ⟨_, E, _, h3, _⟩ := hg.2.1 m hm
  exact owns_isMap h3
theorem Store.cont (h : Sat w0 w (Store ms hs :: L)) (hm : (v, s) ∈ hs) : ∃ F, Cont w F v s := by
  obtain ⟨G, hg, hb⟩ := h.get
  exact ⟨G, hg.2.2 _ hm⟩
theorem Store.clip {A : Option Addr} {n c : Nat} (h : Sat w0 w (Store ms ((.slice A n c, s) :: hs) :: L)) : n = s.length ∧ Sat w0 w (Store ms ((.slice A n n, s) :: hs) :: L) := by
  obtain ⟨F, hc⟩ := Store.cont h (List.mem_cons_self ..)
  refine ⟨hc.clip.1, h.imp fun G hg => ⟨hg.1, hg.2.1, fun x hx => ?_⟩⟩
  rcases List.mem_cons.1 hx with rfl | hx
  · exact (hg.2.2 _ (List.mem_cons_self ..)).clip.2
  · exact hg.2.2 x (List.mem_cons_of_mem _ hx)
theorem zeroE (w : World) : (zeroValue 59).run Try.prog w = .ok (.slice none 0 0) w := by kernel_rfl
theorem Store.look (h : Sat w0 w (Store ms hs :: L)) (hm : (b, f) ∈ ms) {a : ByteArray} (ha : a.size ≤ maxLen) : ∃ v, (Instr.lookup 53 (.map (some b)) (.string a) false).run Try.prog w = .ok v w ∧
    (Instr.lookup 53 (.map (some b)) (.string a) true).run Try.prog w = .ok (.tuple #[v, .bool (get (nm a) f).isSome]) w ∧ Sat w0 w (Store ms ((v, (get (nm a) f).getD []) :: hs) :: L) := by
  obtain ⟨G, hg, _⟩ := h.get
  obtain ⟨h1, E, h2, h3, h4⟩ := hg.2.1 _ hm
  simp only at h2 h3
  have hkey := keyOf_string_mk (P := Try.prog) (k := 9) Try.underlying9 ha
  obtain ⟨v1, ps1, hr1, hv1⟩ := h3.lookup law Try.underlying53 (zeroE w) (zd := .held (.slice none 0 0)) (zp := []) rfl hkey
  obtain ⟨v2, ps2, hr2, hv2⟩ := h3.look_ok law Try.underlying53 (zeroE w) (zd := .held (.slice none 0 0)) (zp := []) rfl hkey
  rw [mapD_has, get_mv, Option.isSome_map] at hr2
  rw [mapD_at, get_mv] at hv1 hv2
  have hgf : get (nm a) f = (get (nm a) E).map (·.2) := by rw [← h2, get_mv]
  have hgf' : (get (nm a) E).isSome = (get (nm a) f).isSome := by rw [hgf, Option.isSome_map]
  refine ⟨v1, hr1, ?_, ?_⟩
  · have a1 : (DataW.held v1 : DataW Value) = _ := congrArg Prod.fst (Option.some.inj hv1)
    have a2 : (DataW.held v2 : DataW Value) = _ := congrArg Prod.fst (Option.some.inj hv2)
    have e : v2 = v1 := DataW.held.inj (a2.trans a1.symm)
    rw [hr2, e]
    unfold nm at hgf'
    rw [hgf']
    rfl
  · refine h.imp fun G' hg' => ⟨hg'.1, hg'.2.1, fun x hx => ?_⟩
    rcases List.mem_cons.1 hx with rfl | hx
    · obtain ⟨h1', E', h2', h3', h4'⟩ := hg'.2.1 _ hm
      obtain ⟨v3, ps3, hr3, hv3⟩ := h3'.lookup law Try.underlying53 (zeroE w) (zd := .held (.slice none 0 0)) (zp := []) rfl hkey
      have hr3 := (Result.ok.inj (hr1.symm.trans hr3)).1
      subst hr3
      simp only at h2'
      rw [mapD_at, get_mv] at hv3
      unfold Rv at hv3
      injection hv3 with hv3
      injection hv3 with hv3
      rw [← h2', get_mv]
      unfold nm
      cases hE : get a.data.toList E' with
      | none =>
        rw [hE] at hv3
        simp only [Option.map_none] at hv3
        injection hv3 with hv3
        subst hv3
        exact Cont.nil _ _
      | some e =>
        rw [hE] at hv3
        simp only [Option.map_some] at hv3
        injection hv3 with hv3
        subst hv3
        exact h4' _ (get_mem hE)
    · exact hg'.2.2 x hx
/-- Of another world that keeps the rows and the other maps. -/
theorem Store.move {w' : World} (h : Sat w0 w (Store ((b, f) :: ms) hs :: L)) {f' : FS Cnt} (hsize : w'.heap.size = w.heap.size) (hbelow : Below w0.heap.size w0 w') (hoth : ∀ k, k ≠ b → w'.heap[k]? = w.heap[k]?)
    (hm : ∀ G, MapAt w G (b, f) → (∀ x ∈ hs, Cont w G x.1 x.2) → ∃ E : FS (Value × Cnt), mv (·.2) E = f' ∧ w'.ownsMap Try.prog 9 Rv b E.length (mapD (mv (·.1) E)) ∧ ∀ e ∈ E, Cont w G e.2.1 e.2.2) : Sat w0 w' (Store ((b, f') :: ms) hs :: L) := by
  have hmap := Store.isMap h (List.mem_cons_self ..)
  refine h.turn fun G hg hG => ⟨G, ⟨?_, ?_, ?_⟩, hbelow, Nat.le_of_eq hsize.symm, fun k _ hk => hoth k fun e => hk (e ▸ (hg.2.1 _ (List.mem_cons_self ..)).1), fun k hk => ⟨.inl hk, by rw [hsize]; exact (hG k hk).2⟩⟩
  · exact hg.1
  · intro m hmm
    rcases List.mem_cons.1 hmm with rfl | hmm
    · obtain ⟨E, e1, e2, e3⟩ := hm G (hg.2.1 _ (List.mem_cons_self ..)) hg.2.2
      refine ⟨(hg.2.1 _ (List.mem_cons_self ..)).1, E, e1, e2, fun e he => (e3 e he).loc (fun _ h => h) fun k cs _ hc => hoth k ?_⟩
      rintro rfl
      obtain ⟨es, clock, hb⟩ := hmap
      rw [hb] at hc
      cases hc
    · have hne : m.1 ≠ b := by
        have := (List.nodup_cons.1 hg.1).1
        intro e
        exact this (show b ∈ _ from e ▸ List.mem_map_of_mem (f := Prod.fst) hmm)
      exact (hg.2.1 m (List.mem_cons_of_mem _ hmm)).loc (fun _ h => h) (fun k _ _ hc => hoth k (by
        rintro rfl
        obtain ⟨es, clock, hb⟩ := hmap
        obtain ⟨cs, hc⟩ := hc
        rw [hb] at hc
        cases hc)) (hoth _ hne)
  · intro x hx
    exact (hg.2.2 x hx).loc (fun _ h => h) fun k cs _ hc => hoth k (by
        rintro rfl
        obtain ⟨es, clock, hb⟩ := hmap
        rw [hb] at hc
        cases hc)
theorem turned_facts {w' : World} {b : Nat} (h : w.mapTurned w' b) : w'.heap.size = w.heap.size ∧ (∀ k, k ≠ b → w'.heap[k]? = w.heap[k]?) ∧ (∀ (w0 : World), Below w0.heap.size w0 w → w0.heap.size ≤ b → Below w0.heap.size w0 w') := by
  obtain ⟨es, clock, es', clock', hb, rfl⟩ := h
  refine ⟨by simp [setBlock], fun k hk => heap_setBlock_other hb _ hk, fun w0 h0 hle => ⟨h0.os, h0.tape, h0.output, ?_, fun k hk => ?_⟩⟩
  · have : (setBlock w b (.map es' clock')).heap.size = w.heap.size := by simp [setBlock]
    rw [this]
    exact h0.size
  · rw [heap_setBlock_other hb _ (by omega)]
    exact h0.block k hk
theorem Store.put (h : Sat w0 w (Store ((b, f) :: ms) ((v, s) :: hs) :: L)) {a : ByteArray} (ha : a.size ≤ maxLen) (hn : f.length < maxLen) : ∃ w', (Instr.mapUpdate 53 (.map (some b)) (.string a) v).run Try.prog w = .ok () w' ∧
    Sat w0 w' (Store ((b, put (nm a) s f) :: ms) ((v, s) :: hs) :: L) ∧ w'.heap.size = w.heap.size ∧ ∀ k, k ≠ b → w'.heap[k]? = w.heap[k]? := by
  obtain ⟨G, hg, _⟩ := h.get
  obtain ⟨h1, E, h2, h3, h4⟩ := hg.2.1 _ (List.mem_cons_self ..)
  simp only at h2 h3
  have hlen : E.length = f.length := by rw [← h2]; unfold mv; simp
  have hkey := keyOf_string_mk (P := Try.prog) (k := 9) Try.underlying9 ha
  obtain ⟨w', hr, hown, ht⟩ := h3.store law Try.underlying53 (by rw [hlen]; exact hn) hkey (val := v) (d := .held v) (ps := []) rfl
  obtain ⟨t1, t2, t3⟩ := turned_facts ht
  refine ⟨w', hr, ?_, t1, t2⟩
  refine Store.move h t1 (t3 w0 h.below (Store.lt h (List.mem_cons_self ..)).1) t2 fun G' hG' hc => ?_
  obtain ⟨g1, E', g2, g3, g4⟩ := hG'
  simp only at g2 g3
  have hlen' : E'.length = f.length := by rw [← g2]; unfold mv; simp
  obtain ⟨w'', hr', hown', ht'⟩ := g3.store law Try.underlying53 (by rw [hlen']; exact hn) hkey (val := v) (d := .held v) (ps := []) rfl
  have ew : w'' = w' := (Result.ok.inj (hr.symm.trans hr')).2.symm
  subst ew
  refine ⟨DkP.put (nm a) (v, s) E', by rw [mv_put, g2], ?_, fun e he => ?_⟩
  · have : (mapD (mv (·.1) E')).put (.string a.data.toList) (.held v) = mapD (mv (·.1) (DkP.put (nm a) (v, s) E')) := by rw [mapD_put, mv_put]; rfl
    rw [this] at hown'
    exact owns_size hown' (by unfold mv; simp)
  · rcases mem_put he with rfl | he
    · exact hc _ (List.mem_cons_self ..)
    · exact g4 e he
theorem Store.drop (h : Sat w0 w (Store ((b, f) :: ms) hs :: L)) {a : ByteArray} (ha : a.size ≤ maxLen) (ty : TypeId) : ∃ w', (Builtin.delete_ #[53, 9] ty #[.map (some b), .string a]).run Try.prog w = .ok (.tuple #[]) w' ∧
    Sat w0 w' (Store ((b, del (nm a) f) :: ms) hs :: L) ∧ w'.heap.size = w.heap.size ∧ ∀ k, k ≠ b → w'.heap[k]? = w.heap[k]? := by
  obtain ⟨G, hg, _⟩ := h.get
  obtain ⟨h1, E, h2, h3, h4⟩ := hg.2.1 _ (List.mem_cons_self ..)
  simp only at h2 h3
  have hkey := keyOf_string_mk (P := Try.prog) (k := 9) Try.underlying9 ha
  obtain ⟨w', hr, hown, ht⟩ := h3.drop law Try.underlying53 hkey ty
  obtain ⟨t1, t2, t3⟩ := turned_facts ht
  refine ⟨w', hr, ?_, t1, t2⟩
  refine Store.move h t1 (t3 w0 h.below (Store.lt h (List.mem_cons_self ..)).1) t2 fun G' hG' hc => ?_
  obtain ⟨g1, E', g2, g3, g4⟩ := hG'
  simp only at g2 g3
  obtain ⟨w'', hr', hown', ht'⟩ := g3.drop law Try.underlying53 hkey ty
  have ew : w'' = w' := (Result.ok.inj (hr.symm.trans hr')).2.symm
  subst ew
  refine ⟨DkP.del (nm a) E', by rw [mv_del, g2], ?_, fun e he => g4 e (mem_del he).1⟩
  have : (mapD (mv (·.1) E')).del (.string a.data.toList) = mapD (mv (·.1) (DkP.del (nm a) E')) := by rw [mapD_del, mv_del]; rfl
  rw [this] at hown'
  exact owns_size hown' (by unfold mv; simp)
theorem Store.clone (h : Sat w0 w (Store ms hs :: L)) (hm : (b, f) ∈ ms) : ∃ es clock, w.heap[b]? = some (.map es clock) ∧ Sat w0 (w.alloc (.map es clock)) (Store ((w.heap.size, f) :: ms) hs :: L) := by
  obtain ⟨es, clock, hb⟩ := Store.isMap h hm
  refine ⟨es, clock, hb, ?_⟩
  have hB : Below w.heap.size w (w.alloc (.map es clock)) := below_alloc (Below.refl _ _) _
  have hsz : (w.alloc (.map es clock)).heap.size = w.heap.size + 1 := Array.size_push _
  have hold : ∀ k, k < w.heap.size → (w.alloc (.map es clock)).heap[k]? = w.heap[k]? := fun k hk => hB.block k hk
  refine h.turn fun G hg hG => ⟨fun k => G k ∨ k = w.heap.size, ⟨?_, ?_, ?_⟩, below_step h.below hB, by omega, fun k hk _ => hold k hk, fun k hk => ?_⟩
  · rw [List.map_cons, List.nodup_cons]
    refine ⟨fun hmem => ?_, hg.1⟩
    obtain ⟨m, hm1, hm2⟩ := List.mem_map.1 hmem
    have := (hG _ (hg.2.1 m hm1).1).2
    simp only at hm2
    omega
  · intro m hmm
    rcases List.mem_cons.1 hmm with rfl | hmm
    · obtain ⟨h1, E, h2, h3, h4⟩ := hg.2.1 _ hm
      obtain ⟨es', clock', hb', F, hs', hD⟩ := h3
      simp only at hb'
      rw [hb] at hb'
      injection hb' with hb'
      injection hb' with e1 e2
      subst e1 e2
      refine ⟨.inr rfl, E, h2, ⟨es, clock, heap_alloc_new w _, F, hs', hD⟩, fun e he => (h4 e he).loc (fun _ h => .inl h) fun k cs hk _ => hold k (hG k hk).2⟩
    · exact (hg.2.1 m hmm).loc (fun _ h => .inl h) (fun k hk _ _ => hold k (hG k hk).2) (hold _ (hG _ (hg.2.1 m hmm).1).2)
  · intro x hx
    exact (hg.2.2 x hx).loc (fun _ h => .inl h) fun k cs hk _ => hold k (hG k hk).2
  · rcases hk with hk | rfl
    · exact ⟨.inl hk, by have := (hG k hk).2; omega⟩
    · exact ⟨.inr (Nat.le_refl _), by omega⟩
theorem Store.make (h : Sat w0 w (Store ms hs :: L)) : Sat w0 (w.alloc (.map #[] 0)) (Store ((w.heap.size, []) :: ms) hs :: L) := by
  have hB : Below w.heap.size w (w.alloc (.map #[] 0)) := below_alloc (Below.refl _ _) _
  have hsz : (w.alloc (.map #[] 0)).heap.size = w.heap.size + 1 := Array.size_push _
  have hold : ∀ k, k < w.heap.size → (w.alloc (.map #[] 0)).heap[k]? = w.heap[k]? := fun k hk => hB.block k hk
  refine h.turn fun G hg hG => ⟨fun k => G k ∨ k = w.heap.size, ⟨?_, ?_, ?_⟩, below_step h.below hB, by omega, fun k hk _ => hold k hk, fun k hk => ?_⟩
  · rw [List.map_cons, List.nodup_cons]
    refine ⟨fun hmem => ?_, hg.1⟩
    obtain ⟨m, hm1, hm2⟩ := List.mem_map.1 hmem
    have := (hG _ (hg.2.1 m hm1).1).2
    simp only at hm2
    omega
  · intro m hmm
    rcases List.mem_cons.1 hmm with rfl | hmm
    · exact ⟨.inr rfl, [], rfl, World.ownsMap_made w _ _ _, fun e he => by cases he⟩
    · exact (hg.2.1 m hmm).loc (fun _ h => .inl h) (fun k hk _ _ => hold k (hG k hk).2) (hold _ (hG _ (hg.2.1 m hmm).1).2)
  · intro x hx
    exact (hg.2.2 x hx).loc (fun _ h => .inl h) fun k cs hk _ => hold k (hG k hk).2
  · rcases hk with hk | rfl
    · exact ⟨.inl hk, by have := (hG k hk).2; omega⟩
    · exact ⟨.inr (Nat.le_refl _), by omega⟩
/-- What was appended to a slice without room: all that lay there stays. -/
theorem Store.append {A : Option Addr} {n : Nat} (h : Sat w0 w (Store ms ((.slice A n n, s) :: hs) :: L)) (t : ByteArray) (ty : TypeId) (hl : s.length + t.size ≤ 140737488355328) (hl2 : s.length + t.size ≤ maxLen) : ∃ v' w', (Builtin.append_ #[59, 9] ty #[.slice A n n, .string t]).run Try.prog w = .ok v' w' ∧
    Sat w0 w' (Store ms ((v', s ++ t.data.toList) :: hs) :: L) ∧ Below w.heap.size w w' := by
  obtain ⟨i0, hi0, hz0, hsz0, hby0⟩ := info_parts (show (Try.prog.info? 5).map (fun i => (i.zero, i.size, i.bytes)) = some (some (.int .u8 0), 1, 1) by kernel_rfl)
  obtain ⟨F, hc⟩ := Store.cont h (List.mem_cons_self ..)
  have key : ∀ v' w', Below w.heap.size w w' → (∀ G, (∀ k, G k → k < w.heap.size) → Cont w G (.slice A n n) s → Cont w' (fun k => (G k ∨ w.heap.size ≤ k) ∧ k < w'.heap.size) v' (s ++ t.data.toList)) → Sat w0 w' (Store ms ((v', s ++ t.data.toList) :: hs) :: L) := by
    intro v' w' hB hv
    refine h.turn fun G hg hG => ⟨fun k => (G k ∨ w.heap.size ≤ k) ∧ k < w'.heap.size, ⟨hg.1, ?_, ?_⟩, below_step h.below hB, hB.size, fun k hk _ => hB.block k hk, fun k hk => ⟨hk.1, hk.2⟩⟩
    · intro m hm
      exact (hg.2.1 m hm).loc (fun k hk => ⟨.inl hk, Nat.lt_of_lt_of_le (hG k hk).2 hB.size⟩) (fun k hk _ _ => hB.block k (hG k hk).2) (hB.block _ (hG _ (hg.2.1 m hm).1).2)
    · intro x hx
      rcases List.mem_cons.1 hx with rfl | hx
      · exact hv G (fun k hk => (hG k hk).2) (hg.2.2 _ (List.mem_cons_self ..))
      · exact (hg.2.2 x (List.mem_cons_of_mem _ hx)).loc (fun k hk => ⟨.inl hk, Nat.lt_of_lt_of_le (hG k hk).2 hB.size⟩) fun k cs hk _ => hB.block k (hG k hk).2
  have htl : t.data.toList.length = t.size := by rw [Array.length_toList]; rfl
  have hcells : strCells t = t.data.toList.map fun b => Value.int .u8 b.toNat := rfl
  by_cases h0 : t.size = 0
  · have ht0 : t.data.toList = [] := List.eq_nil_of_length_eq_zero (by omega)
    have hf := run_firstCells_string (P := Try.prog) w 1 t
    have hst : strCells t = [] := by rw [hcells, ht0]; rfl
    rw [hst, h0] at hf
    rcases hc with ⟨e, rfl⟩ | ⟨g, c, cs, e, h2, h3, h4, h5, h6⟩
    · injection e with e1 e2 e3
      subst e1 e2
      refine ⟨.slice none 0 0, w, ?_, ?_, Below.refl _ _⟩
      · simp [Builtin.append_, run_underlying Try.underlying59, run_underlying Try.underlying9, sizeOf, typeInfo, hi0, hsz0, Builtin.lenOf, h0, hf]
      · refine key _ _ (Below.refl _ _) fun G hG hcg => ?_
        rw [ht0]
        exact Cont.nil _ _
    · injection e with e1 e2 e3
      subst e1 e2
      have hstore : ∀ a : Addr, (storeCells a []).run Try.prog w = .ok () w := fun a => by simp [storeCells, go_sem]
      refine ⟨.slice (some ⟨g, 0, none⟩) s.length s.length, w, ?_, ?_, Below.refl _ _⟩
      · simp [Builtin.append_, run_underlying Try.underlying59, run_underlying Try.underlying9, sizeOf, typeInfo, hi0, hsz0, Builtin.lenOf, h0, hf, Addr.add_lit, hstore]
      · refine key _ _ (Below.refl _ _) fun G hG hcg => ?_
        rw [ht0, List.append_nil]
        exact hcg.loc (fun k hk => ⟨.inl hk, hG k hk⟩) fun k cs hk _ => rfl
  · rcases hc with ⟨e, rfl⟩ | ⟨g, c, cs, e, h2, h3, h4, h5, h6⟩
    · injection e with e1 e2 e3
      subst e1 e2
      simp only [List.length_nil, Nat.zero_add] at hl hl2
      have hr := run_append_nil_string (P := Try.prog) w 59 9 ty 5 i0 (.int .u8 0) Try.underlying59 Try.underlying9 hi0 hz0 t (by omega) (by simp only [maxLen] at hl2; omega) (by rw [hby0]; omega)
      have hB : ∀ cells, Below w.heap.size w (w.drew.alloc (.cells cells 5)) := fun cells => below_alloc (below_drew (Below.refl _ _)) _
      refine ⟨_, _, hr, key _ _ (hB _) fun G hG hcg => ?_, hB _⟩
      have hge := grownCap_ge w t.size 0 5
      have hcm : grownCap w t.size 0 5 ≤ maxLen := grownCap_le_maxLen w t.size 0 5 hl2
      refine .inr ⟨w.heap.size, grownCap w t.size 0 5, _, by rw [List.nil_append, htl], by rw [List.nil_append, htl]; exact hge, hcm, ⟨.inr (Nat.le_refl _), by rw [alloc_size]; exact Nat.lt_succ_self _⟩, heap_alloc_new w.drew _, ?_⟩
      rw [List.nil_append, htl]
      simp only [Array.toList_append, Array.toList_map]
      rw [List.take_append_of_le_length (by rw [List.length_map, htl]; exact Nat.le_refl _), List.take_of_length_le (by rw [List.length_map, htl]; exact Nat.le_refl _)]
    · injection e with e1 e2 e3
      subst e1 e2
      have holds : ∀ j u, (s.map fun b => Value.int .u8 b.toNat)[j]? = some u → w.cell? ((⟨g, 0, none⟩ : Addr).add j) = some u := by
        intro j u hj
        have hjl : j < s.length := by
          have := (List.getElem?_eq_some_iff.1 hj).1
          simpa using this
        rw [← h6, List.getElem?_take_of_lt hjl, Array.getElem?_toList] at hj
        simp [World.cell?, Addr.add_lit, h5, hj]
      have hr := run_append_grow_string (P := Try.prog) w 59 9 ty 5 i0 (.int .u8 0) Try.underlying59 Try.underlying9 hi0 hz0 ⟨g, 0, none⟩ s.length s.length (s.map fun b => Value.int .u8 b.toNat) (by rw [hsz0]; simp) holds t (by omega) (by simp only [maxLen] at hl2; omega) (by rw [hby0]; exact growslice_fits (by omega) (by omega))
      have hB : ∀ cells, Below w.heap.size w (w.drew.alloc (.cells cells 5)) := fun cells => below_alloc (below_drew (Below.refl _ _)) _
      refine ⟨_, _, hr, key _ _ (hB _) fun G hG hcg => ?_, hB _⟩
      have hge := grownCap_ge w (s.length + t.size) s.length 5
      have hcm : grownCap w (s.length + t.size) s.length 5 ≤ maxLen := grownCap_le_maxLen w (s.length + t.size) s.length 5 hl2
      have hlen : (s ++ t.data.toList).length = s.length + t.size := by rw [List.length_append, htl]
      refine .inr ⟨w.heap.size, grownCap w (s.length + t.size) s.length 5, _, by rw [hlen], by rw [hlen]; exact hge, hcm, ⟨.inr (Nat.le_refl _), by rw [alloc_size]; exact Nat.lt_succ_self _⟩, heap_alloc_new w.drew _, ?_⟩
      rw [hlen, List.map_append, ← hcells]
      simp only [Array.toList_append, List.append_assoc]
      rw [← List.append_assoc, List.take_append_of_le_length (by rw [List.length_append, List.length_map, strCells_length]; exact Nat.le_refl _), List.take_of_length_le (by rw [List.length_append, List.length_map, strCells_length]; exact Nat.le_refl _)]
end
end Go.Proofs.Ytlngljhinboglaa.DkS
namespace Go.Proofs.Ytlngljhinboglaa.DkW
open Go.RowKit Go.WideMaps Go.ChangeMaps Go.MapKept Go.Maps Go.Lib Go.Proofs.YtlngljhinboglaaW.PrintWords Go.Proofs.YtlngljhinboglaaW.PrintLast Go.Proofs.YtlngljhinboglaaW.PrintMore Go.Proofs.Ytlngljhinboglaa.Sl Go.Proofs.Ytlngljhinboglaa.DkP Go.Proofs.Ytlngljhinboglaa.DkS
set_option linter.unusedVariables false
set_option linter.unusedSimpArgs false
section
variable {P : Program} {o : Oper} {a : Act} {w w' : World}
theorem append_run {s x : Operand} {t u : TypeId} {v xv v' : Value} (ho : o.op = .call { callee := .builtin .append, args := #[s, x], argTypes := #[t, u] }) (hs : a.eval s = v) (hx : a.eval x = xv) (hr : (Builtin.append_ #[t, u] o.type #[v, xv]).run P w = .ok v' w') :
    (execOp a.eval o).run P w = .ok (.value v') w' := by
  unfold execOp
  simp only [ho, resolve, invoke, builtin, Sem.run_bind, Sem.run_pure, Result.andThen_ok, List.map_toArray, List.map_cons, List.map_nil, hs, hx, hr]
theorem lookup_run {m x : Operand} {t : TypeId} {c : Bool} {mv kv v : Value} (ho : o.op = .lookup t m x c) (hm : a.eval m = mv) (hx : a.eval x = kv) (hr : (Instr.lookup t mv kv c).run P w = .ok v w') :
    (execOp a.eval o).run P w = .ok (.value v) w' := by
  simp [execOp, ho, hm, hx, hr, Result.andThen]
theorem update_run {m x y : Operand} {t : TypeId} {mv kv vv : Value} (ho : o.op = .mapUpdate t m x y) (hm : a.eval m = mv) (hx : a.eval x = kv) (hy : a.eval y = vv) (hr : (Instr.mapUpdate t mv kv vv).run P w = .ok () w') :
    (execOp a.eval o).run P w = .ok .skip w' := by
  simp [execOp, ho, hm, hx, hy, hr, Result.andThen]
end
section
variable {P : Program} {ops : Array Oper} {rest : List Oper} {o : Oper} {a : Act} {Q : Exit → Act → World → Prop} {w w' : World}
theorem wpList_update {m x y : Operand} {t : TypeId} {mv kv vv : Value} (hg : o.guard = none) (ho : o.op = .mapUpdate t m x y) (hm : a.eval m = mv) (hx : a.eval x = kv) (hy : a.eval y = vv) (hr : (Instr.mapUpdate t mv kv vv).run P w = .ok () w')
    (h : wpList P ops Q rest (a.put o.dst undef) w') : wpList P ops Q (o :: rest) a w := by
  refine wpList_plain hg fun K hK => ?_
  unfold Oper.wp
  rw [update_run ho hm hx hy hr]
  exact hK _ _ h
theorem wpList_delete {m x : Operand} {t k : TypeId} {mv kv : Value} (hg : o.guard = none) (ho : o.op = .call { callee := .builtin .delete, args := #[m, x], argTypes := #[t, k] }) (hm : a.eval m = mv) (hx : a.eval x = kv) (hr : (Builtin.delete_ #[t, k] o.type #[mv, kv]).run P w = .ok (.tuple #[]) w')
    (h : wpList P ops Q rest (a.put o.dst (.tuple #[])) w') : wpList P ops Q (o :: rest) a w := by
  refine wpList_plain hg fun K hK => ?_
  unfold Oper.wp
  simp [execOp, ho, resolve, invoke, builtin, hm, hx, hr, Result.andThen]
  exact hK _ _ h
end
theorem Clip_calls (w : World) (A : Option Addr) (n c : Nat) (hc : n ≤ c) (hA : A = none → n = 0 ∧ c = 0) :
    Calls Try.prog 31 #[.slice A n c] w fun e w' => e = .returned (.slice A n n) ∧ w' = w := by
  go_enter Try.func31, Try.ntmps31
  go_wp2
  go_ret
  exact ⟨rfl, rfl⟩
/-- A variable that a closure has caught. -/
def Str (x : Nat) (s : ByteArray) (w : World) : Prop := w.heap[x]? = some (.cells #[.string s] 9 (0, 0))
theorem Str.cell {x : Nat} {s : ByteArray} {w : World} (h : Str x s w) : w.cell? ⟨x, 0, none⟩ = some (.string s) := by
  unfold Str at h
  simp [World.cell?, h]
theorem Str.lt {x : Nat} {s : ByteArray} {w : World} (h : Str x s w) : x < w.heap.size := (Array.getElem?_eq_some_iff.1 h).1
theorem Str.below {x : Nat} {s : ByteArray} {w w' : World} (h : Str x s w) (hb : Below w.heap.size w w') : Str x s w' := (hb.block x h.lt).trans h
theorem Str.move {x : Nat} {s : ByteArray} {w w' : World} {b : Nat} {es : Array MapEntry} {clock : Nat} (h : Str x s w) (hb : w.heap[b]? = some (.map es clock)) (hw : ∀ k, k ≠ b → w'.heap[k]? = w.heap[k]?) : Str x s w' := (hw x (by
  rintro rfl
  unfold Str at h
  rw [hb] at h
  cases h)).trans h
theorem extract_list (s : ByteArray) (n : Nat) : (s.extract 0 n).data.toList = s.data.toList.take n := by
  rw [ByteArray.data_extract, Array.toList_extract, List.extract_eq_take_drop, List.drop_zero, Nat.sub_zero]
def Da.T0 : Bool × List (List Nat × List Nat) := (true, [([], []), ([], []), ([], []), ([], []), ([2, 3], [2, 3]), ([4], [4]), ([], []), ([], []), ([6, 7], [6, 7]), ([5, 8, 5], [5, 8]), ([0, 1, 9, 9, 0, 1, 2, 3, 4, 5, 6, 7, 8, 9], [0, 1, 9])])
def Da.B0 : List Nat := [0, 0, 0, 0, 12, 28, 0, 0, 192, 508, 1023]
theorem Da.tab0 : rtab .any (opsOf Try.f30 0) = Da.T0 := by kernel_rfl
theorem Da.bits0 : waitsOk Da.T0.2 Da.B0 = true := by kernel_rfl
set_option maxHeartbeats 4000000 in
set_option maxRecDepth 100000 in
theorem app_calls (w0 w : World) (L : List Asn) (b x y : Nat) (f : FS Cnt) (ms : List (Nat × FS Cnt)) (a s : ByteArray) (n : Nat) (hn : n ≤ s.size) (ha : a.size ≤ maxLen) (hf : f.length < 1000000) (hc : ((get (nm a) f).getD []).length + n ≤ 1099511627776) (hx : Str x a w) (hy : Str y s w) (h : Sat w0 w (Store ((b, f) :: ms) [] :: L)) :
    Calls Try.prog 30 #[.map (some b), .int .i64 n, .pointer (some ⟨x, 0, none⟩), .pointer (some ⟨y, 0, none⟩)] w fun e w' => e = .returned (.tuple #[]) ∧ Sat w0 w' (Store ((b, (Ch.app a s).go n f) :: ms) [] :: L) := by
  have x0 : w.drew.cell? ⟨x, 0, none⟩ = some (.string a) := hx.cell
  have y0 : w.drew.cell? ⟨y, 0, none⟩ = some (.string s) := hy.cell
  obtain ⟨v, hr, _, h1⟩ := Store.look h.drew (List.mem_cons_self ..) ha
  obtain ⟨F, hcv⟩ := Store.cont h1 (List.mem_cons_self ..)
  obtain ⟨A, c, rfl, hlc, hcm, hA⟩ := hcv.form
  have h2 := (Store.clip h1).2
  have hxs : (s.extract 0 n).size = n := by rw [ByteArray.size_extract]; omega
  have hm : maxLen = 9223372036854775807 := rfl
  obtain ⟨v', w1, hr1, h3, hb1⟩ := Store.append h2 (s.extract 0 n) 59 (by rw [hxs]; omega) (by rw [hxs]; omega)
  obtain ⟨w2, hr2, h4, _, _⟩ := Store.put h3 ha (by omega)
  obtain ⟨n1, hn1⟩ : ∃ n1, ((get (nm a) f).getD []).length = n1 := ⟨_, rfl⟩
  have hAn : A = none → n1 = 0 ∧ c = 0 := fun e => ⟨by have := hA e; omega, hA e⟩
  rw [hn1] at hr hr1 hlc
  have HR0 := Aside0.mk hr
  have HR1 := Aside0.mk hr1
  have x1 : w1.cell? ⟨x, 0, none⟩ = some (.string a) := (Str.below (w := w.drew) hx hb1).cell
  have y1 : w1.cell? ⟨y, 0, none⟩ = some (.string s) := (Str.below (w := w.drew) hy hb1).cell
  have HR2 := Aside0.mk hr2
  have HS := Aside0.mk (show Sat w0 w2 (Store ((b, (Ch.app a s).go n f) :: ms) [] :: L) from by
    have := Store.sub (ms' := (b, put (nm a) ((get (nm a) f).getD [] ++ (s.extract 0 n).data.toList) f) :: ms) (hs' := []) h4 (Store.nodup h4) (fun _ h => h) (fun _ h => by cases h)
    rw [extract_list] at this
    exact this)
  clear hr hr1 hr2 h h1 h2 h3 h4 hcv hc hf hb1 hn1 hA hxs hm ha hx hy
  go_enter Try.func30, Try.ntmps30
  refine start_ (n := 11) (S := fun w' => w'.cell? ⟨x, 0, none⟩ = some (.string a) ∧ w'.cell? ⟨y, 0, none⟩ = some (.string s)) (ds := [10]) #[false, false, false, false, false, false, false, false, false, false, false] (by kernel_rfl) rfl rfl ⟨x0, y0⟩ (fun hHeld => ?_)
  refine with_tabW Da.tab0 Da.bits0 (fun HT_ HW_ => ?_)
  refine pure_ (i := 0) (N := some 6) (v := ?_) (a' := ?_) #[true, false, false, false, false, false, false, false, false, false, false] rfl rfl (any_of HT_.out (by kernel_rfl)) (fun _ _ _ h => h) (Or.inl ⟨by rfl, ?_⟩) ?_ ?_
  rotate_left
  · intro w'
    go_simp
    with_reducible rfl
  rotate_left
  · simp only [Act.put, List.setIfInBounds_toArray, List.set_cons_zero, List.set_cons_succ, i64_w, i32_w]
    rfl
  refine pure_ (i := 2) (N := some 8) (v := ?_) (a' := ?_) #[true, false, true, false, false, false, false, false, false, false, false] rfl rfl (any_of HT_.out (by kernel_rfl)) (fun _ _ _ h => h) (Or.inl ⟨by rfl, ?_⟩) ?_ ?_
  rotate_left
  · intro w'
    go_simp
    with_reducible rfl
  rotate_left
  · simp only [Act.put, List.setIfInBounds_toArray, List.set_cons_zero, List.set_cons_succ, i64_w, i32_w]
    rfl
  refine pure_ (i := 7) (N := some 13) (v := ?_) (a' := ?_) #[true, false, true, false, false, false, false, true, false, false, false] rfl rfl (any_of HT_.out (by kernel_rfl)) (fun _ _ _ h => h) (Or.inl ⟨by rfl, ?_⟩) ?_ ?_
  rotate_left
  · intro w'
    go_simp
    with_reducible rfl
  rotate_left
  · simp only [Act.put, List.setIfInBounds_toArray, List.set_cons_zero, List.set_cons_succ, i64_w, i32_w]
    rfl
  refine take_ (i := 1) (N := some 7) (v := ?_) (a' := ?_) #[true, true, true, false, false, false, false, true, false, false, false] rfl rfl (take_ofW HT_.out HW_.out (by kernel_rfl)) (fun _ _ _ h => h) (Or.inl ⟨by rfl, ?_⟩) hHeld ?_ ?_
  rotate_left
  · rintro w' ⟨s0, s1⟩
    go_simp
    with_reducible rfl
  rotate_left
  · simp only [Act.put, List.setIfInBounds_toArray, List.set_cons_zero, List.set_cons_succ, i64_w, i32_w]
    rfl
  refine take_ (i := 3) (N := some 9) (v := ?_) (a' := ?_) #[true, true, true, true, false, false, false, true, false, false, false] rfl rfl (take_ofW HT_.out HW_.out (by kernel_rfl)) (fun _ _ _ h => h) (Or.inl ⟨by rfl, ?_⟩) hHeld ?_ ?_
  rotate_left
  · rintro w' ⟨s0, s1⟩
    go_simp
    with_reducible rfl
  rotate_left
  · simp only [Act.put, List.setIfInBounds_toArray, List.set_cons_zero, List.set_cons_succ, i64_w, i32_w]
    rfl
  refine take_ (i := 6) (N := some 12) (v := ?_) (a' := ?_) #[true, true, true, true, false, false, true, true, false, false, false] rfl rfl (take_ofW HT_.out HW_.out (by kernel_rfl)) (fun _ _ _ h => h) (Or.inl ⟨by rfl, ?_⟩) hHeld ?_ ?_
  rotate_left
  · rintro w' ⟨s0, s1⟩
    go_simp
    with_reducible rfl
  rotate_left
  · simp only [Act.put, List.setIfInBounds_toArray, List.set_cons_zero, List.set_cons_succ, i64_w, i32_w]
    rfl
  refine pure_ (i := 8) (N := some 14) (v := ?_) (a' := ?_) #[true, true, true, true, false, false, true, true, true, false, false] rfl rfl (any_of HT_.out (by kernel_rfl)) (fun _ _ _ h => h) (Or.inl ⟨by rfl, ?_⟩) ?_ ?_
  rotate_left
  · intro w'
    go_simp
    with_reducible rfl
  rotate_left
  · simp only [Act.put, List.setIfInBounds_toArray, List.set_cons_zero, List.set_cons_succ, i64_w, i32_w]
    rfl
  refine one_ (i := 4) (N := some 10) #[true, true, true, true, true, false, true, true, true, false, false] rfl rfl (one_of HT_.out (by kernel_rfl)) (by decide) (fun K hK => ?_)
  refine value_ (by rfl) rfl (lookup_run rfl rfl rfl HR0.out) ?_
  refine hK.out _ _ ⟨x0, y0⟩ (fun hHeld => ?_)
  clear hK K
  refine norm_ (a' := ?_) ?_ ?_
  rotate_left
  · show Act.put _ (some 10) _ = _
    simp only [Act.put, List.setIfInBounds_toArray, List.set_cons_zero, List.set_cons_succ, i64_w, i32_w]
    rfl
  refine one_ (i := 5) (N := some 11) #[true, true, true, true, true, true, true, true, true, false, false] rfl rfl (one_of HT_.out (by kernel_rfl)) (by decide) (fun K hK => ?_)
  refine goes_ Try.func31 (by kernel_rfl) rfl #[.slice A n1 c] (by rfl) rfl rfl (by simp only [List.map_toArray, List.map_cons, List.map_nil]; rfl) ?_
  with_reducible refine (Clip_calls _ A n1 c hlc hAn).mono ?_
  rintro e w3 ⟨rfl, rfl⟩
  refine ⟨_, rfl, ?_⟩
  refine hK.out _ _ ⟨x0, y0⟩ (fun hHeld => ?_)
  clear hK K
  refine norm_ (a' := ?_) ?_ ?_
  rotate_left
  · show Act.put _ (some 11) _ = _
    simp only [Act.put, List.setIfInBounds_toArray, List.set_cons_zero, List.set_cons_succ, i64_w, i32_w]
    rfl
  refine one_ (i := 9) (N := some 15) #[true, true, true, true, true, true, true, true, true, true, false] rfl rfl (one_of HT_.out (by kernel_rfl)) (by decide) (fun K hK => ?_)
  refine value_ (by rfl) rfl (append_run rfl rfl rfl HR1.out) ?_
  refine hK.out _ _ ⟨x1, y1⟩ (fun hHeld => ?_)
  clear hK K
  refine norm_ (a' := ?_) ?_ ?_
  rotate_left
  · show Act.put _ (some 15) _ = _
    simp only [Act.put, List.setIfInBounds_toArray, List.set_cons_zero, List.set_cons_succ, i64_w, i32_w]
    rfl
  refine last_ (i := 10) (N := none) #[true, true, true, true, true, true, true, true, true, true, true] rfl rfl (one_of HT_.out (by kernel_rfl)) (by decide) (fun K hK => ?_)
  refine skip_ (by rfl) rfl (update_run rfl rfl rfl rfl HR2.out) ?_
  refine hK.out _ _ ?_
  clear hK K
  refine done_ (done_of HT_.out (by kernel_rfl)) ?_
  go_wp2
  go_end0
  exact ⟨rfl, HS.out⟩
end Go.Proofs.Ytlngljhinboglaa.DkW
