/- Plain words: an argument that can be read as data, told as a kind's reading.
   The steps of layer 1's laws: how they are read, and that a script is not heavy. -/
import Derived.Test.YtlngljhinboglaaWKept
import Derived.Test.YtlngljhinboglaaWMore
import Derived.Deep.Slices
import Derived.ChangeArms
import Derived.SizedLaws
import Derived.ChangeSlices
import Derived.Test.YtlngljhinboglaaZDiskSynced8
namespace Go.Proofs.Ytlngljhinboglaa.Op
open Go.RowKit Go.ChangeShapes Go.WideShapes Go.Deep Go.Proofs.YtlngljhinboglaaW.PrintWords Go.Proofs.YtlngljhinboglaaW.PrintLast Go.Proofs.YtlngljhinboglaaW.PrintMore
set_option linter.unusedVariables false
set_option linter.unusedSimpArgs false

/-- Whatever cells of type e can be read as data, they are read by the kind d, and ok holds of the value. -/
def Opens (P : Program) (e : TypeId) {α : Type} (d : Kd α) (ok : α → Prop) : Prop :=
  ∀ (H : Type) (enc : TypeId × Value → H) (w : World) (base : Nat) (spare : Nat → Bool) (held : Bool) (fuel : Nat) (cs : List Value) (y : DataW H × List MemPlace), DataW.trod enc P w base spare held fuel e cs = some y → ∃ x : α, d.K w x cs ∧ ok x
section
variable {P : Program} {e t : TypeId} {α β : Type} {d : Kd α} {a : Kd α} {b : Kd β} {ok oka : α → Prop} {okb : β → Prop}
theorem opens_int {k : IntKind} (he : P.underlying e = some (.int k)) : Opens P e (Kd.int k) (fun x => (Lit.int k x).wf = true) := by
  intro H enc w base spare held fuel cs y h
  obtain ⟨n, rfl, _, hw⟩ := DataW.trod_int he h
  exact ⟨n, rfl, hw⟩
theorem opens_bool (he : P.underlying e = some .bool) : Opens P e Kd.bool (fun _ => True) := by
  intro H enc w base spare held fuel cs y h
  obtain ⟨n, rfl, _⟩ := DataW.trod_bool he h
  exact ⟨n, rfl, trivial⟩
theorem opens_string (he : P.underlying e = some .string) : Opens P e Kd.string (fun x => x.size ≤ maxLen) := by
  intro H enc w base spare held fuel cs y h
  obtain ⟨n, rfl, _, hw⟩ := DataW.trod_string he h
  exact ⟨n, rfl, hw⟩
theorem opens_iso {g : α → β} {f : β → α} (hfg : ∀ x, f (g x) = x) (h : Opens P e d ok) : Opens P e (Kd.iso d f) (fun y => ok (f y)) := by
  intro H enc w base spare held fuel cs y h1
  obtain ⟨x, hk, ho⟩ := h H enc w base spare held fuel cs y h1
  refine ⟨g x, ?_, ?_⟩
  · show d.K w (f (g x)) cs
    rw [hfg]
    exact hk
  · show ok (f (g x))
    rw [hfg]
    exact ho
theorem opens_mono {ok' : α → Prop} (h : Opens P e d ok) (hm : ∀ x, ok x → ok' x) : Opens P e d ok' := by
  intro H enc w base spare held fuel cs y h1
  obtain ⟨x, hk, ho⟩ := h H enc w base spare held fuel cs y h1
  exact ⟨x, hk, hm x ho⟩
theorem opens_slice (ht : P.underlying t = some (.slice e)) (hc : P.cellsOf e = d.sz) (h : Opens P e d ok) : Opens P t (Kd.slice e d) (fun xs => ∀ x ∈ xs, ok x) := by
  intro H enc w base spare held fuel cs y h1
  rcases open_slice ht h1 with ⟨rfl, _⟩ | ⟨ad, len, cap, m, n, D, Pl, rfl, hb, hl, hm, hmm, _, hi⟩
  · exact ⟨[], ⟨none, 0, rfl, Nat.le_refl _, Kd.C_nil d w⟩, fun x hx => by simp at hx⟩
  · have hlm : len ≤ m := by rw [hmm]; split <;> omega
    have key : ∀ k, k ≤ len → ∃ xs : List α, xs.length = k ∧ (∀ x ∈ xs, ok x) ∧ ∀ j p, xs[j]? = some p → ∃ c : List Value, c.length = d.sz ∧ d.K w p c ∧ ∀ i u, c[i]? = some u → w.cell? (ad.add (j * d.sz + i)) = some u := by
      intro k
      induction k with
      | zero => exact fun _ => ⟨[], rfl, fun x hx => by simp at hx, fun j p hj => by simp at hj⟩
      | succ k ih =>
        intro hk
        obtain ⟨xs, h2, h3, h4⟩ := ih (by omega)
        obtain ⟨cs', h5, h6⟩ := hi k (by omega)
        obtain ⟨x, hkx, hox⟩ := h H enc w base spare held n cs' _ h6
        obtain ⟨_, hcl, hat⟩ := World.cells?_some h5
        refine ⟨xs ++ [x], by rw [List.length_append, h2]; rfl, fun z hz => ?_, fun j p hj => ?_⟩
        · rcases List.mem_append.1 hz with hz | hz
          · exact h3 z hz
          · rw [List.mem_singleton.1 hz]; exact hox
        · rcases Nat.lt_or_ge j xs.length with hjl | hjl
          · rw [List.getElem?_append_left hjl] at hj
            exact h4 j p hj
          · rw [List.getElem?_append_right hjl] at hj
            have hj0 : j = xs.length := by
              rcases Nat.lt_or_ge xs.length j with hlt | hge
              · rw [List.getElem?_eq_none (by simp; omega)] at hj
                cases hj
              · omega
            subst hj0
            rw [Nat.sub_self] at hj
            have hxp : x = p := by simpa using hj
            subst hxp
            refine ⟨cs', by rw [hcl, hc], hkx, fun i u hu => ?_⟩
            have hil : i < P.cellsOf e := by
              rw [← hcl]
              exact (List.getElem?_eq_some_iff.1 hu).1
            have h7 := hat i hil
            rw [Go.Deep.add_add, hc, hu, ← h2] at h7
            exact h7
    obtain ⟨xs, h2, h3, h4⟩ := key len (Nat.le_refl _)
    refine ⟨xs, ⟨some ad, cap, by rw [h2], by omega, rfl, ?_, fun hp => ⟨ad, rfl, h4⟩⟩, h3⟩
    rw [h2]
    simp only [maxLen] at hm
    omega

/-- The fields of a struct, from the cell o on. -/
def OpensFs (P : Program) (l : List Field) (o : Nat) {α : Type} (d : Kd α) (ok : α → Prop) : Prop :=
  ∀ (H : Type) (enc : TypeId × Value → H) (w : World) (base : Nat) (spare : Nat → Bool) (held : Bool) (cs : List Value), cs.length = o + d.sz →
    (∀ f ∈ l, ∃ n y, DataW.trod enc P w base spare held n f.type ((cs.drop f.offset).take (P.cellsOf f.type)) = some y) → ∃ x : α, d.K w x (cs.drop o) ∧ ok x
theorem opensFs_last {f : Field} {o : Nat} (ho : f.offset = o) (hc : P.cellsOf f.type = d.sz) (h : Opens P f.type d ok) : OpensFs P [f] o d ok := by
  intro H enc w base spare held cs hl hf
  obtain ⟨n, y, h1⟩ := hf f List.mem_cons_self
  rw [ho, hc, List.take_of_length_le (by rw [List.length_drop]; omega)] at h1
  exact h H enc w base spare held n _ y h1
theorem opensFs_cons {f : Field} {l : List Field} {o : Nat} (ho : f.offset = o) (hc : P.cellsOf f.type = a.sz) (h : Opens P f.type a oka) (hl : OpensFs P l (o + a.sz) b okb) : OpensFs P (f :: l) o (Kd.pair a b) (fun x => oka x.1 ∧ okb x.2) := by
  intro H enc w base spare held cs hcs hf
  have hs : (Kd.pair a b).sz = a.sz + b.sz := rfl
  rw [hs] at hcs
  obtain ⟨n, y, h1⟩ := hf f List.mem_cons_self
  rw [ho, hc] at h1
  obtain ⟨x0, h2, h3⟩ := h H enc w base spare held n _ y h1
  obtain ⟨x1, h4, h5⟩ := hl H enc w base spare held cs (by omega) (fun g hg => hf g (List.mem_cons_of_mem _ hg))
  refine ⟨(x0, x1), ⟨(cs.drop o).take a.sz, cs.drop (o + a.sz), ?_, h2, h4⟩, h3, h5⟩
  rw [← List.drop_drop, List.take_append_drop]
theorem opens_struct {fs : Array Field} (ht : P.underlying t = some (.struct fs)) (hsz : P.cellsOf t = d.sz) (h : OpensFs P fs.toList 0 d ok) : Opens P t d ok := by
  intro H enc w base spare held fuel cs y h1
  obtain ⟨xs, n, _, _, h2, h3, h4⟩ := DataW.trod_struct ht h1
  obtain ⟨x, hk, ho⟩ := h H enc w base spare held cs (by rw [h2, hsz]; omega) (fun f hf => by
    obtain ⟨i, hi, rfl⟩ := List.mem_iff_getElem.1 hf
    have hi' : i < fs.size := by simpa using hi
    have h5 := h4 i fs[i] (Array.getElem?_eq_getElem hi')
    rw [List.getElem?_eq_getElem (by omega)] at h5
    exact ⟨n, _, by simpa using h5⟩)
  exact ⟨x, by simpa using hk, ho⟩
/-- How many elements fit: by the row's own weights. -/
theorem sized_any {H : Type} {enc : TypeId × Value → H} {W : World} {base : Nat} {spare : Nat → Bool} {held : Bool} {ad : Option Addr} {len cap : Nat} {dd : DataW H} {ps : List MemPlace} {ts : List TypeId} {ds : List (DataW H)} {j : Nat}
    (hsz : (DataW.weightsEach P ts ds).all (· ≤ reachBytes) = true) (ht : ts[j]? = some t) (hd : ds[j]? = some dd) (hu : P.underlying t = some (.slice e)) {B : Nat} (hB : P.bytesOf e = B)
    (h : DataW.Trod enc P W base spare held t (.slice ad len cap) dd ps) : len * B ≤ 140737488351232 := by
  obtain ⟨fuel, hf⟩ := h
  rcases open_slice hu hf with ⟨hcs, _⟩ | ⟨x, l, c, m, n, D, Pl, hcs, _, hl, _, hmm, hx, _⟩
  · simp [Value.cells] at hcs
    obtain ⟨rfl, rfl, rfl⟩ := hcs
    simp
  · simp [Value.cells] at hcs
    obtain ⟨rfl, rfl, rfl⟩ := hcs
    obtain ⟨hx, _⟩ := Prod.mk.inj hx
    subst hx
    have z := sized_slice hsz ht hd hu
    rw [hB] at z
    simp only [List.length_map, List.length_range, reachBytes] at z
    have : len * B ≤ (len + (m - len)) * B := Nat.mul_le_mul_right _ (by omega)
    omega
/-- A slice argument, opened. -/
theorem open_slice_arg {H : Type} {enc : TypeId × Value → H} {W : World} {base : Nat} {spare : Nat → Bool} {held : Bool} {ad : Option Addr} {len cap : Nat} {dd : DataW H} {ps : List MemPlace} {D : Kd (List α)} {okl : List α → Prop}
    (hD : D = Kd.slice e d) (ho : Opens P t D okl) (h : DataW.Trod enc P W base spare held t (.slice ad len cap) dd ps) : ∃ xs : List α, len = xs.length ∧ xs.length ≤ cap ∧ d.C W ad xs.length xs ∧ okl xs := by
  subst hD
  obtain ⟨fuel, hf⟩ := h
  obtain ⟨xs, ⟨A, c, hcs, hl, hC⟩, hok⟩ := ho H enc W base spare held fuel _ _ hf
  simp [Value.cells] at hcs
  obtain ⟨rfl, rfl, rfl⟩ := hcs
  exact ⟨xs, rfl, hl, hC, hok⟩
/-- A struct argument, opened. -/
theorem open_agg_arg {H : Type} {enc : TypeId × Value → H} {W : World} {base : Nat} {spare : Nat → Bool} {held : Bool} {cs : Array Value} {dd : DataW H} {ps : List MemPlace}
    (ho : Opens P t d ok) (h : DataW.Trod enc P W base spare held t (.agg cs) dd ps) : ∃ x : α, d.K W x (Value.agg cs).cells.toList ∧ ok x := by
  obtain ⟨fuel, hf⟩ := h
  exact ho H enc W base spare held fuel _ _ hf
end
end Go.Proofs.Ytlngljhinboglaa.Op
namespace Go.Proofs.Ytlngljhinboglaa.StepQ
open Go.RowKit Go.Proofs.YtlngljhinboglaaW.PrintWords Go.Proofs.YtlngljhinboglaaW.PrintLast Go.Proofs.YtlngljhinboglaaW.PrintMore Go.Proofs.Ytlngljhinboglaa.QB Go.Proofs.Ytlngljhinboglaa.Op
set_option linter.unusedVariables false
set_option linter.unusedSimpArgs false
abbrev St := S34
def okStep (p : St) : Prop := (Lit.int .i64 p.f0).wf = true ∧ (Lit.int .i64 p.f1).wf = true ∧ (Lit.int .i64 p.f2).wf = true ∧ (Lit.int .i64 p.f3).wf = true ∧ p.f4.size ≤ maxLen ∧ p.f5.size ≤ maxLen
theorem opens_step : Opens Try.prog 34 k34 okStep :=
  opens_iso (g := fun p : Int × Int × Int × Int × ByteArray × ByteArray => (⟨p.1, p.2.1, p.2.2.1, p.2.2.2.1, p.2.2.2.2.1, p.2.2.2.2.2⟩ : St)) (fun _ => rfl)
    (opens_struct Try.underlying34 (by kernel_rfl) (opensFs_cons rfl (by kernel_rfl) (opens_int Try.underlying3) (opensFs_cons rfl (by kernel_rfl) (opens_int Try.underlying3) (opensFs_cons rfl (by kernel_rfl) (opens_int Try.underlying3) (opensFs_cons rfl (by kernel_rfl) (opens_int Try.underlying3) (opensFs_cons rfl (by kernel_rfl) (opens_string Try.underlying9) (opensFs_last rfl (by kernel_rfl) (opens_string Try.underlying9))))))))
theorem opens_steps : Opens Try.prog 31 (Kd.slice 34 k34) (fun l => ∀ x ∈ l, okStep x) :=
  opens_slice Try.underlying31 (by kernel_rfl) opens_step
theorem mn_eq (a b : Int) : mn a b = min a b := by unfold mn; split <;> omega
theorem heavy_l0 (l : List St) (hl : l.length ≤ 65536) : ∀ (d k : Nat) (acc : Int) (i : Nat), i + d = l.length → d < k → 0 ≤ acc → ∃ b, thermographlaw01_heavy.l0 k l acc i = some b ∧ (b = false → acc ≤ 65536 ∧ l.length ≤ 256 ∧ ∀ j, i ≤ j → j < l.length → (l.getD j z34).f4.size ≤ 65536 ∧ (l.getD j z34).f5.size ≤ 65536)
  | 0, k + 1, acc, i, hi, hk, ha => by
    rw [thermographlaw01_heavy.l0, if_neg (by omega)]
    by_cases h : acc > 65536
    · rw [if_pos h]
      exact ⟨true, rfl, fun e => by cases e⟩
    · rw [if_neg h]
      refine ⟨_, rfl, fun e => ⟨by omega, ?_, fun j h1 h2 => by omega⟩⟩
      have := of_decide_eq_false e
      omega
  | d + 1, k + 1, acc, i, hi, hk, ha => by
    rw [thermographlaw01_heavy.l0, if_pos (by omega)]
    by_cases h : acc ≤ 65536
    · rw [if_pos h, if_pos (by omega)]
      have e1 : wrap64 ((i : Int) + 1) = ((i + 1 : Nat) : Int) := by unfold wrap64; omega
      have hrd : rd_T34 l i = l.getD i z34 := rfl
      rw [e1, hrd, mn_eq, mn_eq]
      generalize hp : l.getD i z34 = p
      have e2 : wrap64 (acc + (min (p.f4.size : Int) 1048576 + min (p.f5.size : Int) 1048576)) = acc + (min (p.f4.size : Int) 1048576 + min (p.f5.size : Int) 1048576) := by unfold wrap64; omega
      rw [e2]
      obtain ⟨b, h1, h2⟩ := heavy_l0 l hl d k (acc + (min (p.f4.size : Int) 1048576 + min (p.f5.size : Int) 1048576)) (i + 1) (by omega) (by omega) (by omega)
      refine ⟨b, h1, fun e => ?_⟩
      obtain ⟨h3, h4, h5⟩ := h2 e
      refine ⟨h, h4, fun j hj1 hj2 => ?_⟩
      by_cases hj : j = i
      · subst hj
        rw [hp]
        constructor <;> omega
      · exact h5 j (by omega) hj2
    · rw [if_neg h, if_pos (by omega)]
      exact ⟨true, rfl, fun e => by cases e⟩
theorem heavy_f (l : List St) : ∃ b, thermographlaw01_heavy.f 70000 l = some b ∧ (b = false → l.length ≤ 256 ∧ ∀ j, j < l.length → (l.getD j z34).f4.size ≤ 65536 ∧ (l.getD j z34).f5.size ≤ 65536) := by
  unfold thermographlaw01_heavy.f
  by_cases hl : l.length ≤ 65536
  · obtain ⟨b, h1, h2⟩ := heavy_l0 l hl l.length 70000 (l.length : Int) 0 (by omega) (by omega) (by omega)
    exact ⟨b, h1, fun e => ⟨(h2 e).2.1, fun j hj => (h2 e).2.2 j (by omega) hj⟩⟩
  · refine ⟨true, ?_, fun e => by cases e⟩
    rw [show 70000 = 69999 + 1 from rfl, thermographlaw01_heavy.l0, if_pos (by omega), if_neg (by omega), if_pos (by omega)]
end Go.Proofs.Ytlngljhinboglaa.StepQ
