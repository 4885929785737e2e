/- More words for a walk's memory (see Sl).
   More words for a walk's memory (see Sl): whole structs stored. -/
import Derived.Test.YtlngljhinboglaaZDiskSynced0
import Derived.Laws.Rows
import Derived.Laws.Tables
namespace Go.Proofs.Ytlngljhinboglaa.Sl
open Go.RowKit Go.Proofs.YtlngljhinboglaaW.PrintWords Go.Proofs.YtlngljhinboglaaW.PrintLast Go.Proofs.YtlngljhinboglaaW.PrintMore
set_option linter.unusedVariables false
set_option linter.unusedSimpArgs false
section
variable {α : Type} {d : Kd α} {e : Nat} {v : Value} {xs : List α} {w0 w w' : World} {L : List Asn} {A : Option Addr} {n c : Nat}
theorem Sat.rowC (h : Sat w0 w (Row d e (.slice A n c) xs :: L)) : d.C w A xs.length xs := by
  obtain ⟨G, h1, _⟩ := h.get
  exact (Kd.R_reads' h1).2.2
theorem Sat.rowLen (h : Sat w0 w (Row d e (.slice A n c) xs :: L)) : n = xs.length ∧ n ≤ c := by
  obtain ⟨G, h1, _⟩ := h.get
  exact ⟨(Kd.R_reads' h1).1, (Kd.R_reads' h1).2.1⟩
theorem Sat.rowQC (h : Sat w0 w (RowQ d e (.slice A n c) xs :: L)) : d.C w A xs.length xs := by
  obtain ⟨G, h1, _⟩ := h.get
  exact (Kd.Q_reads' h1).2.2
end
section
variable {P : Program} {ops : Array Oper} {rest : List Oper} {o : Oper} {a : Act} {Q : Exit → Act → World → Prop}
/-- append(v, ys..) of whole numbers. -/
theorem Sat.appendInts {w0 W : World} {L : List Asn} (hgd : o.guard = none) (s x : Operand) (t e : TypeId) (k : IntKind) (bytes : Nat)
    (ho : o.op = .call { callee := .builtin .append, args := #[s, x], argTypes := #[t, t] })
    (ht : P.underlying t = some (.slice e)) (hinfo : (P.info? e).map (fun i => (i.zero, i.size, i.bytes)) = some (some (.int k 0), 1, bytes)) (hb0 : 0 < bytes)
    (v : Value) (xs ys : List Int) (A : Option Addr) (m c : Nat) (hs : a.eval s = v) (hx : a.eval x = .slice A m c)
    (HS : Sat w0 W (Row (Kd.int k) e v xs :: L)) (HR : Kd.C (Kd.int k) W A m ys) (hl : (xs.length + m) * bytes ≤ 140737488355328)
    (h : ∀ v1 w1, Sat w0 w1 (Row (Kd.int k) e v1 (xs ++ ys) :: L) → W.heap.size ≤ w1.heap.size → wpList P ops Q rest (a.put o.dst v1) w1) :
    wpList P ops Q (o :: rest) a W := by
  obtain ⟨G, h1, h2, h3⟩ := HS.seps
  refine Kd.R_append_rows (Kd.int k) w0.heap.size hgd s x t e (.int k 0) bytes ho ht hinfo rfl (Nat.zero_lt_one) hb0 v xs ys A m c (fun k => G k ∨ W.heap.size ≤ k) (fun _ => False) hs hx
    (Kd.R_mono h1 (fun _ hk => .inl hk)) HR (fun _ _ h => h) (fun _ hk => hk.elim) (fun _ hk => .inr hk) HS.below HS.size hl ?_
  intro v1 w1 hR hB hg _
  exact h v1 w1 (Sat.grew HS.below h2 h3 hR hB hg (fun k hk => h1.1 k hk)) hg.size
end
section
variable {α β : Type} {d : Kd α} {d' : Kd β} {e e' : Nat} {v : Value} {xs : List α} {w0 w : World} {L : List Asn}
theorem Sat.rowQSome (h : Sat w0 w (RowQ d e v xs :: L)) : ∃ A c, v = .slice A xs.length c ∧ xs.length ≤ c := by
  obtain ⟨G, h1, _⟩ := h.get
  exact Kd.Q_slice h1
/-- A printed function that reads a cut row and hands back a part of it. -/
theorem Sat.viaKeptQ (h : Sat w0 w (RowQ d e v xs :: L)) : ∃ G : Nat → Prop, d.Q e w w0.heap.size G v xs ∧ (∀ k, G k → w0.heap.size ≤ k ∧ k < w.heap.size) ∧
    ∀ (w' : World) (v1 : Value) (ys : List β), d'.Q e' w' w0.heap.size (fun k => G k ∨ w.heap.size ≤ k) v1 ys → Below w0.heap.size w0 w' → Kept w w' G → Sat w0 w' (RowQ d' e' v1 ys :: L) := by
  have h0s := h.size
  obtain ⟨G, h1, h2, h3⟩ := h.seps
  refine ⟨G, h1, h2, fun w' v1 ys hR hb hk => ?_⟩
  refine ⟨hb, fun k => (G k ∨ w.heap.size ≤ k) ∧ k < w'.heap.size, Kd.Q_mono (Kd.Q_bound hR) (fun k hk => ⟨hk.1, hk.2.2.1⟩), fun k hk => ⟨?_, hk.2⟩, (h3.loc (fun k hk' => hk.2 k hk'.1.2 hk'.2)).mono (fun k hk' => ⟨⟨hk'.1.1, Nat.lt_of_lt_of_le hk'.1.2 hk.1⟩, fun hk2 => ?_⟩)⟩
  · rcases hk.1 with h | h
    · exact (h2 k h).1
    · exact Nat.le_trans h0s h
  · rcases hk2.1 with h | h
    · exact hk'.2 h
    · have := hk'.1.2
      omega
/-- A row of numbers that came in: it stands in whatever world keeps its blocks. -/
theorem C_intF {k : IntKind} {w : World} {A : Option Addr} {n : Nat} {l : List Int} (h : (Kd.int k).C w A n l) : Kd.F (Kd.int k) w (fun _ => True) A n l := fun W' hW => ⟨h.1, h.2.1, fun hn => by
  obtain ⟨ad, e, hc⟩ := h.2.2 hn
  refine ⟨ad, e, fun j p hp => ?_⟩
  obtain ⟨c, hs, hr, hcell⟩ := hc j p hp
  refine ⟨c, hs, hr, fun i u hu => ?_⟩
  have hw := hcell i u hu
  have hlt : (ad.add (j * (Kd.int k).sz + i)).block < w.heap.size := by
    unfold World.cell? at hw
    split at hw
    · rename_i heq
      exact (Array.getElem?_eq_some_iff.1 heq).1
    · cases hw
  unfold World.cell? at hw ⊢
  rw [hW _ trivial hlt]
  exact hw⟩
end
end Go.Proofs.Ytlngljhinboglaa.Sl
namespace Go.Proofs.Ytlngljhinboglaa.Sl
open Go.RowKit Go.Proofs.YtlngljhinboglaaW.PrintWords Go.Proofs.YtlngljhinboglaaW.PrintLast Go.Proofs.YtlngljhinboglaaW.PrintMore
set_option linter.unusedVariables false
theorem Sat.setRow {w0 w : World} {L : List Asn} {g : Nat} {cs : Array Value} {t : TypeId} (h : Sat w0 w (Blk g cs t :: L)) (cs' : Array Value) : Sat w0 (w.setRow g cs') (Blk g cs' t :: L) := by
  have hge := h.ge
  have hlt := h.lt
  have hb := h.below
  refine h.turn (fun G hG hGB => ⟨fun k => k = g, ⟨rfl, setRow_heap w g cs cs' t (0, 0) hG.2⟩, hb.trans ⟨rfl, rfl, rfl, by simp, fun k hk => setRow_other w g k cs' (by omega)⟩, by simp, fun k _ hn => setRow_other w g k cs' (fun e => hn (by rw [e]; exact hG.1)), fun k hk => by subst hk; exact ⟨.inl hG.1, by simpa using hlt⟩⟩)
theorem alloc_size (w : World) (o : Obj) : (w.alloc o).heap.size = w.heap.size + 1 := Array.size_push _
end Go.Proofs.Ytlngljhinboglaa.Sl
