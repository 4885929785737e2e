/- A disk whose power nobody cuts, in plain words. -/
import Derived.Test.YtlngljhinboglaaDkV
import Derived.Test.YtlngljhinboglaaDkO
namespace Go.Proofs.Ytlngljhinboglaa.DkL
open Go.RowKit Go.WideMaps Go.ChangeMaps Go.MapKept Go.Maps Go.Lib Go.Proofs.YtlngljhinboglaaW.PrintWords Go.Proofs.YtlngljhinboglaaW.PrintLast Go.Proofs.YtlngljhinboglaaW.PrintMore Go.Proofs.Ytlngljhinboglaa.Sl Go.Proofs.Ytlngljhinboglaa.DkP Go.Proofs.Ytlngljhinboglaa.DkS Go.Proofs.Ytlngljhinboglaa.DkW Go.Proofs.Ytlngljhinboglaa.DkT Go.Proofs.Ytlngljhinboglaa.DkV Go.Proofs.Ytlngljhinboglaa.DkC Go.Proofs.Ytlngljhinboglaa.DkM Go.Proofs.Ytlngljhinboglaa.DkN Go.Proofs.Ytlngljhinboglaa.DkO
set_option linter.unusedVariables false
set_option linter.unusedSimpArgs false
/-- A disk whose power nobody cuts. -/
structure Live (r : Int) (d : DS) (N S : Nat) : Prop where
  ok : Ok d N S
  rm : d.room = r
  de : d.dead = false
  lf : d.left = -1
  rt : (tot d.files : Int) ≤ r
theorem Live.mono {r : Int} {d : DS} {N S N' S' : Nat} (h : Live r d N S) (hN : N ≤ N') (hS : S ≤ S') : Live r d N' S' := ⟨h.ok.mono hN hS, h.rm, h.de, h.lf, h.rt⟩
theorem Live.change {r : Int} {d : DS} {N S : Nat} (h : Live r d N S) (c : Ch) : d.change c = ({ d with ops := d.ops + 1, pend := d.pend ++ [c], files := c.go c.size d.files }, 0) := by
  have hrd : d.rawD = d := by unfold DS.rawD; rw [if_neg (by rw [h.lf]; omega)]
  have hr : d.raw = ({ d with ops := d.ops + 1 }, 0) := by
    unfold DS.raw
    rw [hrd]
    simp only
    rw [if_neg (by rw [h.de]; simp), if_neg (by rw [h.lf]; omega)]
  unfold DS.change
  rw [hr]
  rfl
theorem app_tot {l : FS Cnt} (h : Rising l) (a s : ByteArray) : tot ((Ch.app a s).go s.size l) = tot l + s.size := by
  have h2 : (s.data.toList).length = s.size := by rw [Array.length_toList]; rfl
  have h1 := tot_put (k := nm a) (v := (get (nm a) l).getD [] ++ s.data.toList.take s.size) h
  rw [List.length_append, List.length_take, h2, Nat.min_self] at h1
  simp only [Ch.go]
  omega
theorem app_has (l : FS Cnt) (a s : ByteArray) (n : Nat) : get (nm a) ((Ch.app a s).go n l) ≠ none := by
  simp only [Ch.go]
  rw [get_put_same]
  simp
/-- An append that may be. -/
theorem Live.yes {r : Int} {d : DS} {N S : Nat} (h : Live r d N S) {a s : ByteArray} (hf : fits a = true) (hs : s.size ≤ 65536) (ht : (tot d.files : Int) + s.size ≤ r) : (d.append a s).2 = 0 ∧ Live r (d.append a s).1 (N + 1) (S + s.size) ∧ tot (d.append a s).1.files = tot d.files + s.size ∧ get (nm a) (d.append a s).1.files ≠ none := by
  have e : d.append a s = d.change (.app a s) := by
    unfold DS.append
    rw [if_neg (by rw [hf]; simp), if_neg (by rw [h.rm]; omega)]
  have hk := ok_change h.ok (c := .app a s) ⟨fits_le hf, by omega⟩
  have hc := h.change (.app a s)
  rw [e]
  rw [hc] at hk ⊢
  have h3 := app_tot h.ok.rf a s
  refine ⟨rfl, ⟨hk, h.rm, h.de, h.lf, ?_⟩, h3, app_has _ _ _ _⟩
  show ((tot ((Ch.app a s).go s.size d.files) : Nat) : Int) ≤ r
  rw [h3]
  omega
theorem Live.no {r : Int} {d : DS} {N S : Nat} (h : Live r d N S) {a s : ByteArray} (hf : fits a = false) : d.append a s = (d, 10) := by unfold DS.append; rw [if_pos hf]
theorem Live.full {r : Int} {d : DS} {N S : Nat} (h : Live r d N S) {a s : ByteArray} (hf : fits a = true) (ht : ¬ (tot d.files : Int) + s.size ≤ r) : d.append a s = (d, 12) := by
  unfold DS.append
  rw [if_neg (by rw [hf]; simp), if_pos (by rw [h.rm]; omega)]
theorem Live.remove {r : Int} {d : DS} {N S : Nat} (h : Live r d N S) (a : ByteArray) : Live r (d.remove a).1 (N + 1) S ∧ (fits a = true → get (nm a) d.files ≠ none → (d.remove a).2 = 0) := by
  unfold DS.remove
  by_cases hf : fits a = false
  · rw [if_pos hf]
    exact ⟨h.mono (Nat.le_succ _) (Nat.le_refl _), fun e => by rw [hf] at e; cases e⟩
  · rw [if_neg hf]
    have hf2 : fits a = true := by simpa using hf
    by_cases hg : get (nm a) d.files = none
    · rw [if_pos hg]
      exact ⟨h.mono (Nat.le_succ _) (Nat.le_refl _), fun _ e => absurd hg e⟩
    · rw [if_neg hg]
      have hk := ok_change h.ok (c := .rem a) (fits_le hf2)
      rw [h.change] at hk ⊢
      refine ⟨⟨hk, h.rm, h.de, h.lf, ?_⟩, fun _ _ => rfl⟩
      have := tot_del (k := nm a) h.ok.rf
      have := h.rt
      simp only [Ch.go]
      omega
theorem Live.start {r : Int} (h0 : 0 ≤ r) (h : (DS.new r).room = r) : Live r (DS.new r) 0 0 := ⟨⟨List.Pairwise.nil, List.Pairwise.nil, Nat.le_refl _, Nat.le_refl _, Nat.le_refl _, Nat.le_refl _, Int.le_refl _, Int.le_refl _, by simp [DS.new], by simp [DS.new], fun c hc => by cases hc⟩, h, rfl, rfl, h0⟩
theorem Live.sync {r : Int} {d : DS} {N S : Nat} (h : Live r d N S) : d.sync = ({ d with ops := d.ops + 1, pend := [], lasting := d.files }, 0) := by
  have hrd : d.rawD = d := by unfold DS.rawD; rw [if_neg (by rw [h.lf]; omega)]
  have hr : d.raw = ({ d with ops := d.ops + 1 }, 0) := by
    unfold DS.raw
    rw [hrd]
    simp only
    rw [if_neg (by rw [h.de]; simp), if_neg (by rw [h.lf]; omega)]
  unfold DS.sync
  rw [hr]
  rfl
theorem Live.sync_live {r : Int} {d : DS} {N S : Nat} (h : Live r d N S) : Live r d.sync.1 (N + 1) S := by
  rw [h.sync]
  exact ⟨⟨h.ok.rf, h.ok.rf, Nat.le_trans h.ok.nf (Nat.le_succ _), by simp only [List.length_nil]; have := h.ok.nf; omega, h.ok.tf, by simp only [wt]; exact h.ok.tf, by have := h.ok.op0; simp only; omega, by have := h.ok.op1; simp only; omega, h.ok.l0, h.ok.l1, fun c hc => by cases hc⟩, h.rm, h.de, h.lf, h.rt⟩
theorem Live.app {r : Int} {d : DS} {N S : Nat} (h : Live r d N S) {a s : ByteArray} (hf : fits a = true) (ht : (tot d.files : Int) + s.size ≤ r) : d.append a s = d.change (.app a s) := by
  unfold DS.append
  rw [if_neg (by rw [hf]; simp), if_neg (by rw [h.rm]; omega)]
end Go.Proofs.Ytlngljhinboglaa.DkL
