/- What steps keep, in plain words: both disks live, and what is pending has its sources.
   One step of DiskSynced's loops, whatever its kind. -/
import Derived.Test.YtlngljhinboglaaZDiskSynced11
import Derived.Test.YtlngljhinboglaaZDiskSynced12
namespace Go.Proofs.Ytlngljhinboglaa.DkX
open Go.RowKit Go.Proofs.Ytlngljhinboglaa.Sl Go.Proofs.Ytlngljhinboglaa.DkP Go.Proofs.Ytlngljhinboglaa.DkV Go.Proofs.Ytlngljhinboglaa.DkC Go.Proofs.Ytlngljhinboglaa.DkM Go.Proofs.Ytlngljhinboglaa.DkN Go.Proofs.Ytlngljhinboglaa.DkO Go.Proofs.Ytlngljhinboglaa.DkL Go.Proofs.Ytlngljhinboglaa.DkF Go.Proofs.Ytlngljhinboglaa.DkH
set_option linter.unusedVariables false
set_option linter.unusedSimpArgs false
variable {d : DS} {N S : Nat} {r : Int}
def Keys (f : FS Cnt) : Prop := ∀ p ∈ f, p.1.length ≤ 40
theorem nm_le {x : ByteArray} (hx : fits x = true) : (nm x).length ≤ 40 := by
  have := fits_le hx
  have e : (nm x).length = x.size := by unfold nm; rw [Array.length_toList]; rfl
  omega
theorem Keys.put {f : FS Cnt} (h : Keys f) {x : ByteArray} (hx : fits x = true) (v : Cnt) : Keys (put (nm x) v f) := fun p hp => by
  rcases mem_put hp with rfl | hp
  · exact nm_le hx
  · exact h p hp
theorem Keys.del {f : FS Cnt} (h : Keys f) (k : Nm) : Keys (del k f) := fun p hp => h p (mem_del hp).1
/-- A live disk whose pending changes have their sources. -/
structure Both (r : Int) (d : DS) (N S : Nat) : Prop where
  lv : Live r d N S
  rk : Rok d N S
  ks : Keys d.files
theorem Rok.mono {N' S' : Nat} (h : Rok d N S) (hN : N ≤ N') (hS : S ≤ S') : Rok d N' S' := ⟨h.ok.mono hN hS, h.fl, h.vd⟩
theorem Both.mono {N' S' : Nat} (h : Both r d N S) (hN : N ≤ N') (hS : S ≤ S') : Both r d N' S' := ⟨h.lv.mono hN hS, Rok.mono h.rk hN hS, h.ks⟩
theorem Both.start (h0 : 0 ≤ r) (h : (DS.new r).room = r) : Both r (DS.new r) 0 0 := ⟨Live.start h0 h, ⟨(Live.start h0 h).ok, rfl, trivial⟩, fun p hp => by cases hp⟩
theorem Both.app (h : Both r d N S) (a s : ByteArray) (hs : s.size ≤ 65536) : Both r (d.append a s).1 (N + 1) (S + s.size) := by
  by_cases hf : fits a = false
  · rw [h.lv.no hf]
    exact h.mono (Nat.le_succ _) (Nat.le_add_right _ _)
  have hf2 : fits a = true := by simpa using hf
  by_cases ht : (tot d.files : Int) + s.size ≤ r
  · have h1 := (h.lv.yes hf2 hs ht).2.1
    rw [h.lv.app hf2 ht] at h1 ⊢
    exact ⟨h1, Rok.live h.rk h.lv (.app a s) trivial h1.ok, by rw [h.lv.change]; exact h.ks.put hf2 _⟩
  · rw [h.lv.full hf2 ht]
    exact h.mono (Nat.le_succ _) (Nat.le_add_right _ _)
theorem Both.rem (h : Both r d N S) (a : ByteArray) : Both r (d.remove a).1 (N + 1) S := by
  have h1 := (h.lv.remove a).1
  unfold DS.remove at h1 ⊢
  by_cases hf : fits a = false
  · rw [if_pos hf]
    exact h.mono (Nat.le_succ _) (Nat.le_refl _)
  · rw [if_neg hf] at h1 ⊢
    by_cases hg : get (nm a) d.files = none
    · rw [if_pos hg]
      exact h.mono (Nat.le_succ _) (Nat.le_refl _)
    · rw [if_neg hg] at h1 ⊢
      exact ⟨h1, Rok.live h.rk h.lv (.rem a) trivial h1.ok, by rw [h.lv.change]; exact h.ks.del _⟩
theorem Both.ren (h : Both r d N S) (a b : ByteArray) : Both r (d.rename a b).1 (N + 1) S := by
  unfold DS.rename
  by_cases hf : fits a = false ∨ fits b = false
  · rw [if_pos hf]
    exact h.mono (Nat.le_succ _) (Nat.le_refl _)
  · rw [if_neg hf]
    have ha : fits a = true := by
      cases e : fits a with
      | true => rfl
      | false => exact absurd (Or.inl e) hf
    have hb : fits b = true := by
      cases e : fits b with
      | true => rfl
      | false => exact absurd (Or.inr e) hf
    by_cases hg : get (nm a) d.files = none
    · rw [if_pos hg]
      exact h.mono (Nat.le_succ _) (Nat.le_refl _)
    · rw [if_neg hg]
      have hk := ok_change h.lv.ok (c := .ren a b) ⟨fits_le ha, fits_le hb⟩
      have hk2 : Ok (d.change (.ren a b)).1 (N + 1) S := hk
      refine ⟨?_, Rok.live h.rk h.lv (.ren a b) hg hk2, by rw [h.lv.change]; exact (h.ks.del _).put hb _⟩
      rw [h.lv.change] at hk2 ⊢
      refine ⟨hk2, h.lv.rm, h.lv.de, h.lv.lf, ?_⟩
      have h1 := tot_del (k := nm a) h.lv.ok.rf
      have h2 := tot_put (k := nm b) (v := (get (nm a) d.files).getD []) (h.lv.ok.rf.del (nm a))
      have h3 := h.lv.rt
      simp only [Ch.go]
      omega
theorem Both.syn (h : Both r d N S) : Both r d.sync.1 (N + 1) S := by
  have h1 := h.lv.sync_live
  refine ⟨h1, ⟨h1.ok, ?_, ?_⟩, ?_⟩
  · rw [h.lv.sync]; rfl
  · rw [h.lv.sync]; trivial
  · rw [h.lv.sync]; exact h.ks
end Go.Proofs.Ytlngljhinboglaa.DkX
namespace Go.Proofs.Ytlngljhinboglaa.DkU
open Go.RowKit Go.WideMaps Go.ChangeMaps Go.MapKept Go.Maps Go.Lib Go.Proofs.YtlngljhinboglaaW.PrintWords Go.Proofs.YtlngljhinboglaaW.PrintLast Go.Proofs.YtlngljhinboglaaW.PrintMore Go.Proofs.Ytlngljhinboglaa.QB Go.Proofs.Ytlngljhinboglaa.Sl Go.Proofs.Ytlngljhinboglaa.DkP Go.Proofs.Ytlngljhinboglaa.DkV Go.Proofs.Ytlngljhinboglaa.DkL Go.Proofs.Ytlngljhinboglaa.DkF Go.Proofs.Ytlngljhinboglaa.DkH Go.Proofs.Ytlngljhinboglaa.DkK Go.Proofs.Ytlngljhinboglaa.DkX
set_option linter.unusedVariables false
set_option linter.unusedSimpArgs false
section
variable {w0 w : World} {L : List Asn} {gd gr : Nat} {d : DS} {N S : Nat} {r : Int}
set_option maxHeartbeats 8000000 in
set_option maxRecDepth 100000 in
theorem step_neg (k n keep part : Int) (a s : ByteArray) (hk : k < 0) (h : Sat w0 w L) :
    Calls Try.prog 19 #[.pointer (some ⟨gd, 0, none⟩), .pointer (some ⟨gr, 0, none⟩), .agg #[.int .i64 k, .int .i64 n, .int .i64 keep, .int .i64 part, .string a, .string s]] w fun e w' => e = .returned (.bool true) ∧ Sat w0 w' L := by
  have H := Aside0.mk h
  have k0 : (k == 0) = false := beq_eq_false_iff_ne.2 (by omega)
  have k1 : (k == 1) = false := beq_eq_false_iff_ne.2 (by omega)
  have k2 : (k == 2) = false := beq_eq_false_iff_ne.2 (by omega)
  have k3 : (k == 3) = false := beq_eq_false_iff_ne.2 (by omega)
  have k4 : (k == 4) = false := beq_eq_false_iff_ne.2 (by omega)
  have k5 : (k == 5) = false := beq_eq_false_iff_ne.2 (by omega)
  have k6 : (k == 6) = false := beq_eq_false_iff_ne.2 (by omega)
  clear h hk
  go_enter Try.func19, Try.ntmps19
  go_wp2_with (first | ((with_reducible refine gate_dst (N := 5) rfl ?_); refine box_event ?hg (N := 5) ?hd (cs := #[.int .i64 k, .int .i64 n, .int .i64 keep, .int .i64 part, .string a, .string s]) (t := 34) ?hr ?_; (case hd => rfl); (case hg => rfl); (case hr => first | (go_simp; done) | (go_simp; rfl)); intro gb hgb w1 hbox hb; have H1 := Aside0.mk (Sat.boxed H.out hgb hbox hb); have z0 := H1.out.cell 0 (v := .int .i64 k) rfl; clear hb hbox hgb))
  go_ret
  exact ⟨rfl, H1.out.tail⟩
theorem step_any (k n keep part : Int) (a s : ByteArray) (hk : k < 4) (hN : N ≤ 99998) (hS : S ≤ 68719476736) (hr0 : 0 ≤ r) (hr1 : r ≤ 68719476736) (ha : a.size ≤ maxLen) (hs : s.size ≤ 65536) (hb : Both r d N S) (h : Sat w0 w (Dk gd d :: Rk gr d :: L)) :
    Calls Try.prog 19 #[.pointer (some ⟨gd, 0, none⟩), .pointer (some ⟨gr, 0, none⟩), .agg #[.int .i64 k, .int .i64 n, .int .i64 keep, .int .i64 part, .string a, .string s]] w fun e w' => ∃ d', e = .returned (.bool true) ∧ Both r d' (N + 1) (S + 65536) ∧ Sat w0 w' (Dk gd d' :: Rk gr d' :: L) := by
  have hm : maxLen = 9223372036854775807 := rfl
  by_cases h0 : k < 0
  · exact (step_neg k n keep part a s h0 h).mono fun e w' he => ⟨d, he.1, hb.mono (Nat.le_succ _) (Nat.le_add_right _ _), he.2⟩
  by_cases e0 : k = 0
  · subst e0
    exact (step_app n keep part a s hN hS hr0 hr1 ha (by omega) hb.lv hb.rk h).mono fun e w' he => ⟨_, he.1, (hb.app a s hs).mono (Nat.le_refl _) (by omega), he.2⟩
  by_cases e1 : k = 1
  · subst e1
    exact (step_ren n keep part a s hN hS ha (by omega) hb.lv hb.rk h).mono fun e w' he => ⟨_, he.1, (hb.ren a s).mono (Nat.le_refl _) (by omega), he.2⟩
  by_cases e2 : k = 2
  · subst e2
    exact (step_rem n keep part a s hN hS ha hb.lv hb.rk h).mono fun e w' he => ⟨_, he.1, (hb.rem a).mono (Nat.le_refl _) (by omega), he.2⟩
  have e3 : k = 3 := by omega
  subst e3
  exact (step_sync n keep part a s hN hS hb.lv hb.rk h).mono fun e w' he => ⟨_, he.1, hb.syn.mono (Nat.le_refl _) (by omega), he.2⟩
end
end Go.Proofs.Ytlngljhinboglaa.DkU
