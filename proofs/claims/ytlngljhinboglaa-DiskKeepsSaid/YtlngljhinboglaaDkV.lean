/- A disk in a walk's memory, and what its crash comes to. -/
import Derived.Test.YtlngljhinboglaaDkT
namespace Go.Proofs.Ytlngljhinboglaa.DkV
open Go.RowKit Go.WideMaps Go.ChangeMaps Go.MapKept Go.Maps Go.Lib Go.Proofs.YtlngljhinboglaaW.PrintWords Go.Proofs.YtlngljhinboglaaW.PrintLast Go.Proofs.YtlngljhinboglaaW.PrintMore Go.Proofs.Ytlngljhinboglaa.Sl Go.Proofs.Ytlngljhinboglaa.DkP Go.Proofs.Ytlngljhinboglaa.DkS Go.Proofs.Ytlngljhinboglaa.DkW Go.Proofs.Ytlngljhinboglaa.DkT
set_option linter.unusedVariables false
set_option linter.unusedSimpArgs false
/-! Bounds. -/
def wt : List Ch → Nat
  | [] => 0
  | c :: r => c.size + wt r
theorem wt_append : ∀ (a b : List Ch), wt (a ++ b) = wt a + wt b
  | [], b => by simp [wt]
  | c :: r, b => by rw [List.cons_append, wt, wt, wt_append r b]; omega
def Fit (c : Ch) : Prop := match c with
  | .app a s => a.size ≤ 40 ∧ s.size ≤ 68719476736
  | .ren a b => a.size ≤ 40 ∧ b.size ≤ 40
  | .rem a => a.size ≤ 40
theorem go_tot {c : Ch} {n : Nat} (hn : n ≤ c.size) {l : FS Cnt} (h : Rising l) : tot (c.go n l) ≤ tot l + c.size := by
  cases c with
  | app a s =>
    have := tot_put (k := nm a) (v := (get (nm a) l).getD [] ++ s.data.toList.take n) h
    rw [List.length_append, List.length_take] at this
    simp only [Ch.go, Ch.size] at hn ⊢
    omega
  | ren a b =>
    have h1 := tot_del (k := nm a) h
    have h2 := tot_put (k := nm b) (v := (get (nm a) l).getD []) (h.del (nm a))
    simp only [Ch.go, Ch.size]
    omega
  | rem a =>
    have h1 := tot_del (k := nm a) h
    simp only [Ch.go, Ch.size]
    omega
theorem len_le_tot {k : Nm} {f : FS Cnt} (h : Rising f) : ((get k f).getD []).length ≤ tot f := by
  have := tot_del (k := k) h
  omega
theorem crashF_ok (keep part : Int) : ∀ (r : List Ch) (i : Nat) {l : FS Cnt}, Rising l → Rising (crashF keep part i r l) ∧ (crashF keep part i r l).length ≤ l.length + r.length ∧ tot (crashF keep part i r l) ≤ tot l + wt r
  | [], i, l, h => ⟨h, Nat.le_refl _, Nat.le_refl _⟩
  | c :: r, i, l, h => by
    rw [crashF]
    split
    · obtain ⟨h1, h2, h3⟩ := crashF_ok keep part r (i + 1) (c.go_rising c.size h)
      have h4 := c.go_length c.size l
      have h5 := go_tot (Nat.le_refl c.size) h
      refine ⟨h1, ?_, ?_⟩
      · rw [List.length_cons]; omega
      · rw [wt]; omega
    · split
      · have h4 := c.go_length (min part (c.size : Int)).toNat l
        have h5 := go_tot (c := c) (n := (min part (c.size : Int)).toNat) (by omega) h
        refine ⟨c.go_rising _ h, ?_, ?_⟩
        · rw [List.length_cons]; omega
        · rw [wt]; omega
      · refine ⟨h, ?_, ?_⟩
        · rw [List.length_cons]; omega
        · rw [wt]; omega
structure Ok (d : DS) (N S : Nat) : Prop where
  rf : Rising d.files
  rl : Rising d.lasting
  nf : d.files.length ≤ N
  nl : d.lasting.length + d.pend.length ≤ N
  tf : tot d.files ≤ S
  tl : tot d.lasting + wt d.pend ≤ S
  op0 : 0 ≤ d.ops
  op1 : d.ops ≤ N
  l0 : -1 ≤ d.left
  l1 : d.left ≤ 9223372036854775807
  nm : ∀ c ∈ d.pend, Fit c
theorem Ok.mono {d : DS} {N S N' S' : Nat} (h : Ok d N S) (hN : N ≤ N') (hS : S ≤ S') : Ok d N' S' :=
  ⟨h.rf, h.rl, Nat.le_trans h.nf hN, Nat.le_trans h.nl hN, Nat.le_trans h.tf hS, Nat.le_trans h.tl hS, h.op0, by have := h.op1; omega, h.l0, h.l1, h.nm⟩
theorem Ok.crash {d : DS} {N S : Nat} (h : Ok d N S) (keep part : Int) : Ok (d.crash keep part) N S := by
  unfold DS.crash
  split
  · exact h
  · obtain ⟨h1, h2, h3⟩ := crashF_ok keep part d.pend 0 h.rl
    have := h.nl
    have := h.tl
    exact ⟨h1, h1, by simp only; omega, by simp only [List.length_nil]; omega, by simp only; omega, by simp only [wt]; omega, h.op0, h.op1, by simp, by simp, fun c hc => by cases hc⟩
/-! A disk, at block g. -/
abbrev FC := (Fn × Array Value) × Bool × Int
def kFC : Kd FC := Kd.pair (Kd.scalar (fun p : Fn × Array Value => .func p.1 #[] p.2) (fun _ => rfl)) (Kd.pair Kd.bool (Kd.int .i64))
theorem kFC_open {w : World} {x : FC} {cs : List Value} (h : kFC.K w x cs) : cs = [.func x.1.1 #[] x.1.2, .bool x.2.1, .int .i64 x.2.2] := by
  obtain ⟨_, _, rfl, rfl, ⟨_, _, rfl, rfl, rfl⟩⟩ := h
  exact rfl
theorem kFC_mkM (w : World) (base : Nat) (ok : Nat → Prop) (x : FC) : kFC.M w base ok x [.func x.1.1 #[] x.1.2, .bool x.2.1, .int .i64 x.2.2] := ⟨[.func x.1.1 #[] x.1.2], [.bool x.2.1, .int .i64 x.2.2], rfl, rfl, ⟨[.bool x.2.1], [.int .i64 x.2.2], rfl, rfl, rfl⟩⟩
def zFC : FC := ((.func 0, #[]), false, 0)
theorem at_FC {w : World} {A : Option Addr} {n : Nat} {xs : List FC} (h : Kd.C kFC w A n xs) (i : Nat) (h1 : i < n) : ∃ ad , A = some ad ∧ w.cell? (ad.add (i * 3)) = some (.func (xs.getD i zFC).1.1 #[] (xs.getD i zFC).1.2) ∧ w.cell? ⟨(ad.add (i * 3)).block, (ad.add (i * 3)).off + 1, none⟩ = some (.bool (xs.getD i zFC).2.1) ∧ w.cell? ⟨(ad.add (i * 3)).block, (ad.add (i * 3)).off + 2, none⟩ = some (.int .i64 (xs.getD i zFC).2.2) := by
  obtain ⟨ad, c, e, _, hK, hc0⟩ := Kd.C_get h zFC (i : Int) (by omega) (by omega)
  rw [Int.toNat_natCast] at hK hc0
  have hc : ∀ j u, c[j]? = some u → w.cell? (ad.add (i * 3 + j)) = some u := hc0
  obtain rfl := kFC_open hK
  exact ⟨ad, e, hc 0 _ rfl, by rw [← add_field _ _ 1 (by omega)]; exact hc 1 _ rfl, by rw [← add_field _ _ 2 (by omega)]; exact hc 2 _ rfl⟩
/-- A closure that does a change. -/
def FnOf (w : World) (F : Nat → Prop) (p : FC) : Ch → Prop
  | .app a s => ∃ x y, p = ((.func 30, #[.pointer (some ⟨x, 0, none⟩), .pointer (some ⟨y, 0, none⟩)]), true, (s.size : Int)) ∧ F x ∧ F y ∧ Str x a w ∧ Str y s w
  | .ren a b => ∃ x y, p = ((.func 46, #[.pointer (some ⟨x, 0, none⟩), .pointer (some ⟨y, 0, none⟩)]), false, 0) ∧ F x ∧ F y ∧ Str x a w ∧ Str y b w
  | .rem a => ∃ x, p = ((.func 32, #[.pointer (some ⟨x, 0, none⟩)]), false, 0) ∧ F x ∧ Str x a w
theorem FnOf.loc {w w' : World} {F F' : Nat → Prop} {p : FC} {c : Ch} (h : FnOf w F p c) (hF : ∀ k, F k → F' k) (hw : ∀ k, F k → w'.heap[k]? = w.heap[k]?) : FnOf w' F' p c := by
  cases c with
  | app a s =>
    obtain ⟨x, y, e, f1, f2, s1, s2⟩ := h
    exact ⟨x, y, e, hF _ f1, hF _ f2, (hw _ f1).trans s1, (hw _ f2).trans s2⟩
  | ren a b =>
    obtain ⟨x, y, e, f1, f2, s1, s2⟩ := h
    exact ⟨x, y, e, hF _ f1, hF _ f2, (hw _ f1).trans s1, (hw _ f2).trans s2⟩
  | rem a =>
    obtain ⟨x, e, f1, s1⟩ := h
    exact ⟨x, e, hF _ f1, (hw _ f1).trans s1⟩
def Caps (ps : List FC) (cs : List Ch) : Asn := ⟨fun B w F => ps.length = cs.length ∧ ∀ (i : Nat) (p : FC) (c : Ch), ps[i]? = some p → cs[i]? = some c → FnOf w F p c, fun ⟨h1, h2⟩ hw => ⟨h1, fun i p c hp hc => (h2 i p c hp hc).loc (fun _ h => h) hw⟩⟩
theorem Caps.start {w0 w : World} {L : List Asn} (h : Sat w0 w L) : Sat w0 w (Caps [] [] :: L) := ⟨h.below, fun _ => False, ⟨rfl, fun i p c hp => by simp at hp⟩, fun _ hk => hk.elim, h.seps.mono (fun _ hk => ⟨hk, fun h => h⟩)⟩
theorem Caps.len {w0 w : World} {L : List Asn} {ps : List FC} {cs : List Ch} (h : Sat w0 w (Caps ps cs :: L)) : ps.length = cs.length := by
  obtain ⟨G, hg, _⟩ := h.get
  exact hg.1
theorem Caps.at_ {w0 w : World} {L : List Asn} {ps : List FC} {cs : List Ch} (h : Sat w0 w (Caps ps cs :: L)) {i : Nat} {c : Ch} (hc : cs[i]? = some c) : FnOf w (fun k => w0.heap.size ≤ k ∧ k < w.heap.size) (ps.getD i zFC) c := by
  obtain ⟨G, hg, hb⟩ := h.get
  have hi : i < ps.length := by rw [hg.1]; exact (List.getElem?_eq_some_iff.1 hc).1
  have := hg.2 i (ps.getD i zFC) c (by rw [List.getElem?_eq_getElem hi, List.getD, List.getElem?_eq_getElem hi]; rfl) hc
  exact this.loc hb fun _ _ => rfl
def cellsOf (d : DS) (fb lb : Nat) (pv : Value) : Array Value := #[.int .i64 d.room, .int .i64 (tot d.files : Nat), .map (some fb), .map (some lb), pv, .int .i64 d.ops, .int .i64 d.left, .int .i64 d.keep, .int .i64 d.part, .bool d.dead]
def Dk (g : Nat) (d : DS) : Asn := Ex fun q : Nat × Nat × Value × List FC => All [Blk g (cellsOf d q.1 q.2.1 q.2.2.1) 56, Store [(q.1, d.files), (q.2.1, d.lasting)] [], Row kFC 63 q.2.2.1 q.2.2.2, Caps q.2.2.2 d.pend]
theorem Dk.open {w0 w : World} {L : List Asn} {g : Nat} {d : DS} (h : Sat w0 w (Dk g d :: L)) : ∃ fb lb A c ps, ps.length = d.pend.length ∧ ps.length ≤ c ∧
    Sat w0 w (Blk g (cellsOf d fb lb (.slice A d.pend.length c)) 56 :: Store [(fb, d.files), (lb, d.lasting)] [] :: Row kFC 63 (.slice A d.pend.length c) ps :: Caps ps d.pend :: L) := by
  obtain ⟨⟨fb, lb, pv, ps⟩, h1⟩ := h.some_
  have h2 := h1.opened
  obtain ⟨A, c, e, hc, _⟩ := (h2.nth 2 rfl).rowSlice
  have hl := Caps.len (h2.nth 3 rfl)
  simp only at e hc hl h2
  refine ⟨fb, lb, A, c, ps, hl, hc, ?_⟩
  rw [← hl, ← e]
  exact h2
theorem Dk.mk {w0 w : World} {L : List Asn} {g : Nat} {d : DS} {fb lb : Nat} {pv : Value} {ps : List FC} (h : Sat w0 w (Blk g (cellsOf d fb lb pv) 56 :: Store [(fb, d.files), (lb, d.lasting)] [] :: Row kFC 63 pv ps :: Caps ps d.pend :: L)) : Sat w0 w (Dk g d :: L) := Sat.any (fb, lb, pv, ps) (Sat.closed h)
end Go.Proofs.Ytlngljhinboglaa.DkV
