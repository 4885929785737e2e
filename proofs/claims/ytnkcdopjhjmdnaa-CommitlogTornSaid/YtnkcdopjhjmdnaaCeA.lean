/- A string behind bytes: the step of an append, over a frame of two blocks of other types. -/
import Derived.Test.YtnkcdopjhjmdnaaSl2
namespace Go.Proofs.Ytnkcdopjhjmdnaa.CeW
open Go.RowKit Go.Proofs.YtnkcdopjhjmdnaaW.PrintWords Go.Proofs.YtnkcdopjhjmdnaaW.PrintLast Go.Proofs.YtnkcdopjhjmdnaaW.PrintMore Go.Proofs.Ytnkcdopjhjmdnaa.Sl
set_option linter.unusedVariables false
set_option linter.unusedSimpArgs false
section
variable {P : Program} {ops : Array Oper} {rest : List Oper} {o : Oper} {a : Act} {Q : Exit → Act → World → Prop}
theorem appendStr {w0 W : World} (hgd : o.guard = none) (s x : Operand) (t u e : TypeId)
    (ho : o.op = .call { callee := .builtin .append, args := #[s, x], argTypes := #[t, u] })
    (ht : P.underlying t = some (.slice e)) (hu : P.underlying u = some .string) (hinfo : (P.info? e).map (fun i => (i.zero, i.size, i.bytes)) = some (some (.int .u8 0), 1, 1))
    (v : Value) (xs : List Int) (y : ByteArray) (hs : a.eval s = v) (hx : a.eval x = .string y)
    {g1 g2 : Nat} {c1 c2 : Array Value} {t1 t2 : TypeId} (ht1 : t1 ≠ e) (ht2 : t2 ≠ e)
    (HS : Sat w0 W (Row (Kd.int .u8) e v xs :: Blk g1 c1 t1 :: Blk g2 c2 t2 :: [])) (hl : xs.length + y.size ≤ 140737488355328)
    (h : ∀ v1 w1, Sat w0 w1 (Row (Kd.int .u8) e v1 (xs ++ bytesOf y) :: Blk g1 c1 t1 :: Blk g2 c2 t2 :: []) → wpList P ops Q rest (a.put o.dst v1) w1) :
    wpList P ops Q (o :: rest) a W := by
  obtain ⟨G, h1, h2, G1, ⟨k1, b1⟩, h3, G2, ⟨k2, b2⟩, h4, _⟩ := HS.seps
  refine print_append_str w0.heap.size hgd s x t u e ho ht hu hinfo v xs y hs hx (Kd.own_of_R h1) HS.below HS.size hl ?_
  intro v1 w1 hown hB hg
  have e1 := h3 g1 k1
  have e2 := h4 g2 k2
  have hne : g2 ≠ g1 := fun e => e2.2 (e ▸ k1)
  have f1 : w1.heap[g1]? = some (.cells c1 t1 (0, 0)) := (hg.block g1 e1.1.2 (fun hk => e1.2 (h1.1 g1 hk.symm))).trans b1
  have f2 : w1.heap[g2]? = some (.cells c2 t2 (0, 0)) := (hg.block g2 e2.1.1.2 (fun hk => e2.1.2 (h1.1 g2 hk.symm))).trans b2
  have hR : (Kd.int .u8).R e w1 w0.heap.size (fun k => v1.ownBlock = some k) v1 (xs ++ bytesOf y) := Kd.R_of_own (h1 := fun _ => rfl) hown (fun _ hk => hk)
  have hRb := Kd.R_bound hR
  have hty : ∀ k, v1.ownBlock = some k → w0.heap.size ≤ k ∧ k < w1.heap.size ∧ ∃ cells, w1.heap[k]? = some (.cells cells e (0, 0)) := fun k hk => by
    obtain ⟨_, b, c, q, hq, cells, hc⟩ := hRb.1 k hk
    have hqe : q = e := by simpa [Kd.int, Kd.scalar] using hq
    exact ⟨b, c, cells, hqe ▸ hc⟩
  refine h v1 w1 ⟨hB, fun k => v1.ownBlock = some k, hR, fun k hk => ⟨(hty k hk).1, (hty k hk).2.1⟩, fun k => k = g1, ⟨rfl, f1⟩, fun k hk => ⟨⟨?_, ?_⟩, ?_⟩, fun k => k = g2, ⟨rfl, f2⟩, fun k hk => ⟨⟨⟨?_, ?_⟩, ?_⟩, ?_⟩, trivial⟩
  · rw [hk]; exact e1.1.1
  · rw [hk]; exact Nat.lt_of_lt_of_le e1.1.2 hg.size
  · intro hk2
    rw [hk] at hk2
    obtain ⟨_, _, cells, hc⟩ := hty g1 hk2
    rw [f1] at hc
    simp only [Option.some.injEq, Obj.cells.injEq] at hc
    exact ht1 hc.2.1
  · rw [hk]; exact e2.1.1.1
  · rw [hk]; exact Nat.lt_of_lt_of_le e2.1.1.2 hg.size
  · intro hk2
    rw [hk] at hk2
    obtain ⟨_, _, cells, hc⟩ := hty g2 hk2
    rw [f2] at hc
    simp only [Option.some.injEq, Obj.cells.injEq] at hc
    exact ht2 hc.2.1
  · rw [hk]; exact hne
end
end Go.Proofs.Ytnkcdopjhjmdnaa.CeW
