/- More words for a walk's memory (see Sl): whole structs stored. -/
import Derived.Test.YtlngljhinboglaaSl2
import Derived.Laws.Rows
import Derived.Laws.Tables
namespace Go.Proofs.Ytlngljhinboglaa.Sl
open Go.RowKit Go.Proofs.YtlngljhinboglaaW.PrintWords Go.Proofs.YtlngljhinboglaaW.PrintLast Go.Proofs.YtlngljhinboglaaW.PrintMore
set_option linter.unusedVariables false
theorem Sat.setRow {w0 w : World} {L : List Asn} {g : Nat} {cs : Array Value} {t : TypeId} (h : Sat w0 w (Blk g cs t :: L)) (cs' : Array Value) : Sat w0 (w.setRow g cs') (Blk g cs' t :: L) := by
  have hge := h.ge
  have hlt := h.lt
  have hb := h.below
  refine h.turn (fun G hG hGB => ⟨fun k => k = g, ⟨rfl, setRow_heap w g cs cs' t (0, 0) hG.2⟩, hb.trans ⟨rfl, rfl, rfl, by simp, fun k hk => setRow_other w g k cs' (by omega)⟩, by simp, fun k _ hn => setRow_other w g k cs' (fun e => hn (by rw [e]; exact hG.1)), fun k hk => by subst hk; exact ⟨.inl hG.1, by simpa using hlt⟩⟩)
theorem alloc_size (w : World) (o : Obj) : (w.alloc o).heap.size = w.heap.size + 1 := Array.size_push _
end Go.Proofs.Ytlngljhinboglaa.Sl
