/- What a crash behind appends of names that begin with z leaves, in plain words.
   The document's New. -/
import Derived.Test.YtlngljhinboglaaZDiskSynced13
import Derived.Test.YtlngljhinboglaaZDiskSynced10
namespace Go.Proofs.Ytlngljhinboglaa.DkY
open Go.RowKit Go.Proofs.Ytlngljhinboglaa.DkP Go.Proofs.Ytlngljhinboglaa.DkV Go.Proofs.Ytlngljhinboglaa.DkL Go.Proofs.Ytlngljhinboglaa.DkF Go.Proofs.Ytlngljhinboglaa.DkX
set_option linter.unusedVariables false
set_option linter.unusedSimpArgs false
/-- An append of a name that begins with z. -/
def Zs (c : Ch) : Prop := match c with
  | .app a _ => (nm a).head? = some 122
  | _ => False
def Keeps (k : Nm) (v : Cnt) (f : FS Cnt) : Prop := ∃ v', get k f = some v' ∧ v <+: v' ∧ (k.head? ≠ some 122 → v' = v)
theorem go_keeps {c : Ch} (hz : Zs c) (n : Nat) {k : Nm} {v : Cnt} {f : FS Cnt} (hg : Keeps k v f) : Keeps k v (c.go n f) := by
  obtain ⟨v', h1, h2, h3⟩ := hg
  cases c with
  | app a s =>
    by_cases e : nm a = k
    · subst e
      refine ⟨v' ++ s.data.toList.take n, ?_, h2.trans (List.prefix_append _ _), fun h => absurd hz h⟩
      rw [Ch.go, get_put_same, h1]
      rfl
    · exact ⟨v', by rw [Ch.go, get_put_other e]; exact h1, h2, h3⟩
  | ren a b => exact hz.elim
  | rem a => exact hz.elim
theorem crashF_keeps (keep part : Int) {k : Nm} {v : Cnt} : ∀ (r : List Ch) (i : Nat) {f : FS Cnt}, (∀ c ∈ r, Zs c) → Keeps k v f → Keeps k v (crashF keep part i r f)
  | [], i, f, _, h => h
  | c :: r, i, f, hz, h => by
    have h0 := hz c (List.mem_cons_self ..)
    rw [crashF]
    split
    · exact crashF_keeps keep part r (i + 1) (fun b hb => hz b (List.mem_cons_of_mem _ hb)) (go_keeps h0 _ h)
    · split
      · exact go_keeps h0 _ h
      · exact h
theorem Keeps.self {k : Nm} {v : Cnt} {f : FS Cnt} (h : get k f = some v) : Keeps k v f := ⟨v, h, List.prefix_refl _, fun _ => rfl⟩
theorem get_of_mem {k : Nm} {v : Cnt} : ∀ {f : FS Cnt}, Rising f → (k, v) ∈ f → get k f = some v
  | [], _, h => by cases h
  | p :: r, hr, h => by
    obtain ⟨h1, h2⟩ := List.pairwise_cons.1 hr
    rcases List.mem_cons.1 h with rfl | h
    · simp [DkP.get]
    · have hb := h1 _ h
      have hne : p.1 ≠ k := by
        rintro rfl
        rw [before_irrefl] at hb
        cases hb
      have ih := get_of_mem h2 h
      unfold DkP.get at ih ⊢
      rw [List.find?_cons_of_neg (by simpa using hne)]
      exact ih
/-- What is appended behind a Sync, under names with z alone. -/
structure More (r : Int) (c d : DS) (N S : Nat) : Prop where
  bt : Both r d N S
  la : d.lasting = c.files
  zs : ∀ x ∈ d.pend, Zs x
section
variable {r : Int} {c d : DS} {N S : Nat}
theorem More.mono {N' S' : Nat} (h : More r c d N S) (hN : N ≤ N') (hS : S ≤ S') : More r c d N' S' := ⟨h.bt.mono hN hS, h.la, h.zs⟩
theorem More.start (h : Both r d N S) : More r d.sync.1 d.sync.1 (N + 1) S := by
  refine ⟨h.syn, ?_, ?_⟩
  · rw [h.lv.sync]
  · rw [h.lv.sync]
    intro x hx
    cases hx
theorem More.app (h : More r c d N S) (a s : ByteArray) (hs : s.size ≤ 65536) (hz : (nm a).head? = some 122) : More r c (d.append a s).1 (N + 1) (S + s.size) := by
  refine ⟨h.bt.app a s hs, ?_, ?_⟩
  all_goals
    by_cases hf : fits a = false
    · rw [h.bt.lv.no hf]
      first | exact h.la | exact h.zs
    have hf2 : fits a = true := by simpa using hf
    by_cases ht : (tot d.files : Int) + s.size ≤ r
    · rw [h.bt.lv.app hf2 ht, h.bt.lv.change]
      first
        | exact h.la
        | (intro x hx
           rcases List.mem_append.1 hx with hx | hx
           · exact h.zs x hx
           · rw [List.mem_singleton.1 hx]; exact hz)
    · rw [h.bt.lv.full hf2 ht]
      first | exact h.la | exact h.zs
theorem More.crash (h : More r c d N S) (hc : Rising c.files) (keep part : Int) : (d.crash keep part).dead = true ∧ (d.crash keep part).pend = [] ∧ ∀ k v, (k, v) ∈ c.files → Keeps k v (d.crash keep part).files := by
  unfold DS.crash
  rw [if_neg (by rw [h.bt.lv.de]; simp)]
  refine ⟨rfl, rfl, fun k v hk => crashF_keeps keep part d.pend 0 h.zs ?_⟩
  rw [h.la]
  exact Keeps.self (get_of_mem hc hk)
end
end Go.Proofs.Ytlngljhinboglaa.DkY
namespace Go.Proofs.Ytlngljhinboglaa.DkZ
open Go.RowKit Go.Proofs.YtlngljhinboglaaW.PrintWords Go.Proofs.YtlngljhinboglaaW.PrintLast Go.Proofs.YtlngljhinboglaaW.PrintMore Go.Proofs.Ytlngljhinboglaa.QB Go.Proofs.Ytlngljhinboglaa.Sl Go.Proofs.Ytlngljhinboglaa.DkP Go.Proofs.Ytlngljhinboglaa.DkF
set_option linter.unusedVariables false
set_option linter.unusedSimpArgs false
set_option maxHeartbeats 8000000 in
set_option maxRecDepth 100000 in
theorem RNew_calls (w0 w : World) (L : List Asn) (h : Sat w0 w L) :
    Calls Try.prog 18 #[.int .i64 1048576] w fun e w' => ∃ g, e = .returned (.pointer (some ⟨g, 0, none⟩)) ∧ Sat w0 w' (Rk g (DS.new 1048576) :: L) := by
  have H1 := Aside0.mk (h.newBlk #[.int .i64 1048576, .slice none 0 0, .slice none 0 0, .int .i64 0, .bool false, .int .i64 0, .int .i64 0, .int .i64 0, .bool false] tD)
  clear h
  go_enter Try.func18, Try.ntmps18
  go_wp2
  go_ret
  have h2 := Sat.nilRow kC tC (Sat.nilRow kF tF H1.out)
  exact ⟨_, rfl, Rk.mk (d := DS.new 1048576) (lv := .slice none 0 0) (pv := .slice none 0 0) ((h2.nth 1 rfl).nth 2 rfl)⟩
end Go.Proofs.Ytlngljhinboglaa.DkZ
