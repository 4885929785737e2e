/- What the calls of a disk's inner functions come to, on: a name that changes, one that goes, all bytes, a copy.
   A disk in a walk's memory, and what its crash comes to. -/
import Derived.Test.YtlngljhinboglaaZDiskSynced2
namespace Go.Proofs.Ytlngljhinboglaa.DkT
open Go.RowKit Go.WideMaps Go.ChangeMaps Go.MapKept Go.Maps Go.Lib Go.Proofs.YtlngljhinboglaaW.PrintWords Go.Proofs.YtlngljhinboglaaW.PrintLast Go.Proofs.YtlngljhinboglaaW.PrintMore Go.Proofs.Ytlngljhinboglaa.Sl Go.Proofs.Ytlngljhinboglaa.DkP Go.Proofs.Ytlngljhinboglaa.DkS Go.Proofs.Ytlngljhinboglaa.DkW
set_option linter.unusedVariables false
set_option linter.unusedSimpArgs false
set_option maxHeartbeats 4000000 in
set_option maxRecDepth 100000 in
theorem rem_calls (w0 w : World) (L : List Asn) (b x : Nat) (n : Int) (f : FS Cnt) (ms : List (Nat × FS Cnt)) (a : ByteArray) (ha : a.size ≤ maxLen) (hx : Str x a w) (h : Sat w0 w (Store ((b, f) :: ms) [] :: L)) :
    Calls Try.prog 32 #[.map (some b), .int .i64 n, .pointer (some ⟨x, 0, none⟩)] w fun e w' => e = .returned (.tuple #[]) ∧ Sat w0 w' (Store ((b, del (nm a) f) :: ms) [] :: L) := by
  have x0 := hx.cell
  obtain ⟨w1, hr1, h1, _, _⟩ := Store.drop h ha 0
  have HR1 := Aside0.mk hr1
  have HS := Aside0.mk h1
  clear hr1 h1 h hx
  go_enter Try.func32, Try.ntmps32
  go_wp2_with (first | (at_delete; go_loud (refine wpList_delete rfl rfl rfl rfl HR1.out ?_)))
  go_end0
  exact ⟨rfl, HS.out⟩
set_option maxHeartbeats 4000000 in
set_option maxRecDepth 100000 in
theorem ren_calls (w0 w : World) (L : List Asn) (b x y : Nat) (n : Int) (f : FS Cnt) (ms : List (Nat × FS Cnt)) (a c : ByteArray) (ha : a.size ≤ maxLen) (hc : c.size ≤ maxLen) (hf : f.length < 1000000) (hx : Str x a w) (hy : Str y c w) (h : Sat w0 w (Store ((b, f) :: ms) [] :: L)) :
    Calls Try.prog 46 #[.map (some b), .int .i64 n, .pointer (some ⟨x, 0, none⟩), .pointer (some ⟨y, 0, none⟩)] w fun e w' => e = .returned (.tuple #[]) ∧ Sat w0 w' (Store ((b, (Ch.ren a c).go 0 f) :: ms) [] :: L) := by
  have x0 := hx.cell
  have y0 := hy.cell
  have hmap := Store.isMap h (List.mem_cons_self ..)
  obtain ⟨es, clock, hmap⟩ := hmap
  obtain ⟨v, hr, _, h1⟩ := Store.look h (List.mem_cons_self ..) ha
  obtain ⟨w1, hr1, h2, _, ho1⟩ := Store.drop h1 ha 0
  have x1 := (hx.move hmap ho1).cell
  have y1 := (hy.move hmap ho1).cell
  have hm : maxLen = 9223372036854775807 := rfl
  obtain ⟨w2, hr2, h3, _, _⟩ := Store.put h2 hc (by have := del_length (nm a) f; omega)
  have HR1 := Aside0.mk hr1
  have HR2 := Aside0.mk hr2
  have HS := Aside0.mk (show Sat w0 w2 (Store ((b, (Ch.ren a c).go 0 f) :: ms) [] :: L) from Store.sub (hs' := []) h3 (Store.nodup h3) (fun _ h => h) (fun _ h => by cases h))
  clear hr1 hr2 h1 h2 h3 h hx hy hmap ho1 hf hm
  go_enter Try.func46, Try.ntmps46
  go_wp2_with (first | (at_delete; go_loud (refine wpList_delete rfl rfl rfl rfl HR1.out ?_)) | (at_mapUpdate; go_loud (refine wpList_update rfl rfl rfl rfl rfl HR2.out ?_)))
  go_end0
  exact ⟨rfl, HS.out⟩
/-! All bytes. -/
def sumL (left : Lit → Bool) : FS Cnt → Nat
  | [] => 0
  | p :: r => (if left (.string p.1) = true then 0 else p.2.length) + sumL left r
theorem sumL_zero {left : Lit → Bool} : ∀ {f : FS Cnt}, (∀ p ∈ f, left (.string p.1) = true) → sumL left f = 0
  | [], _ => rfl
  | p :: r, h => by
    rw [sumL, if_pos (h p (List.mem_cons_self ..)), sumL_zero fun q hq => h q (List.mem_cons_of_mem _ hq)]
theorem sumL_all {left : Lit → Bool} : ∀ {f : FS Cnt}, (∀ p ∈ f, left (.string p.1) = false) → sumL left f = tot f
  | [], _ => rfl
  | p :: r, h => by
    rw [sumL, if_neg (by rw [h p (List.mem_cons_self ..)]; simp), sumL_all fun q hq => h q (List.mem_cons_of_mem _ hq), tot]
theorem sumL_le (left : Lit → Bool) : ∀ f : FS Cnt, sumL left f ≤ tot f
  | [] => Nat.le_refl _
  | p :: r => by
    have := sumL_le left r
    rw [sumL, tot]
    split <;> omega
theorem sumL_congr {left left' : Lit → Bool} : ∀ {f : FS Cnt}, (∀ p ∈ f, left (.string p.1) = left' (.string p.1)) → sumL left f = sumL left' f
  | [], _ => rfl
  | p :: r, h => by
    rw [sumL, sumL, h p (List.mem_cons_self ..), sumL_congr fun q hq => h q (List.mem_cons_of_mem _ hq)]
theorem sumL_step {left : Lit → Bool} {k : Nm} {s : Cnt} : ∀ {f : FS Cnt}, Rising f → left (.string k) = true → get k f = some s → sumL (fun z => left z && !z.sameKey (.string k)) f = sumL left f + s.length
  | [], _, _, h => by cases h
  | p :: r, hr, hl, h => by
    obtain ⟨h1, h2⟩ := List.pairwise_cons.1 hr
    rw [sumL, sumL]
    by_cases hp : p.1 = k
    · have hs : s = p.2 := by
        simp [DkP.get, hp] at h
        exact h.symm
      rw [sumL_congr (left' := left) (f := r) (fun q hq => by
        have := h1 q hq
        have hne : (q.1 == k) = false := by
          rw [beq_eq_false_iff_ne]
          rintro rfl
          rw [hp, before_irrefl] at this
          cases this
        show (left (.string q.1) && !(q.1 == k)) = _
        rw [hne]
        simp), hp, hl, hs]
      have : (Lit.string k).sameKey (.string k) = true := beq_self_eq_true k
      simp [this]
      omega
    · have hg : get k r = some s := by
        unfold DkP.get at h ⊢
        rw [List.find?_cons_of_neg (by simpa using hp)] at h
        exact h
      rw [sumL_step h2 hl hg]
      have : (Lit.string p.1).sameKey (.string k) = false := beq_eq_false_iff_ne.2 hp
      rw [this]
      simp
      omega
section
variable {w : World} {ops : Array Oper} {rest : List Oper} {o : Oper} {a : Act} {Q : Exit → Act → World → Prop}
theorem wpList_next_files (hg : o.guard = none) (it : Operand) (hop : o.op = Op.next it false) {b r n : Nat} {E : FS (Value × Cnt)} {left : Lit → Bool} {cnt : Nat} (hE : ∀ e ∈ E, ∃ A c, e.2.1 = .slice A e.2.2.length c)
    (hit : a.eval it = .pointer (some ⟨r, 0, none⟩)) (h : w.ranges Try.prog 9 Rv b r n (mapD (mv (·.1) E)) left cnt)
    (hDone : (∀ kl, left kl = false) → wpList Try.prog ops Q rest (a.put o.dst (.tuple #[.bool false])) w)
    (hMore : ∀ (x : ByteArray) (A : Option Addr) (c : Nat) (s : Cnt) (w' : World) (cnt' : Nat), left (.string (nm x)) = true → get (nm x) (mv (·.2) E) = some s → w'.ranges Try.prog 9 Rv b r n (mapD (mv (·.1) E)) (fun z => left z && !z.sameKey (.string (nm x))) cnt' → cnt' < cnt →
      w.grownBy w' (some r) → (Instr.entry (.pointer (some ⟨r, 0, none⟩))).run Try.prog w' = .ok (.tuple #[.string x, .slice A s.length c]) w' → wpList Try.prog ops Q rest (a.put o.dst (.tuple #[.bool true, .string x, .slice A s.length c])) w') :
    wpList Try.prog ops Q (o :: rest) a w := by
  refine wpList_next_ranges (w := w) hg it hop 9 law Rv Value.string (id : Value → Value) (fun key kl hk => ?_) (fun v y _ => ⟨v, rfl⟩) b r n _ left cnt hit h (fun _ hl => hDone hl) fun x c kl y w' cnt' hk hl hv hat hrg hlt hgr hsz hen => ?_
  · rw [keyOf_string Try.underlying9] at hk
    unfold mapKey at hk
    rw [Try.underlying9] at hk
    cases key <;> simp at hk
    exact ⟨_, rfl⟩
  · have hkl : kl = .string (nm x) := by
      rw [keyOf_string Try.underlying9] at hk
      unfold mapKey at hk
      rw [Try.underlying9] at hk
      simp at hk
      exact hk.2.symm
    subst hkl
    have hv' : y = (.held c, []) := (Option.some.inj hv).symm
    subst hv'
    have e1 := hat (.held (.bool true))
    have e2 := hat (.held (.bool false))
    rw [mapD_at, get_mv] at e1 e2
    cases hgE : get (nm x) E with
    | none =>
      rw [hgE] at e1 e2
      simp only [Option.map_none] at e1 e2
      have := e1.trans e2.symm
      injection this with this
      injection this with this
      cases this
    | some e =>
      rw [hgE] at e1
      simp only [Option.map_some] at e1
      have hc := DataW.held.inj e1
      obtain ⟨A, c', hform⟩ := hE _ (get_mem hgE)
      simp only at hform
      rw [hform] at hc
      subst hc
      exact hMore x A c' e.2 w' cnt' hl (by rw [get_mv, hgE]; rfl) hrg hlt hgr hen
end
set_option maxHeartbeats 4000000 in
set_option maxRecDepth 100000 in
theorem sum_calls (w : World) (F : Nat → Prop) (b : Nat) (f : FS Cnt) (hr : Rising f) (ht : tot f ≤ 1099511627776) (h : MapAt w F (b, f)) :
    Calls Try.prog 42 #[.map (some b)] w fun e w' => e = .returned (.int .i64 (tot f)) ∧ Below w.heap.size w w' := by
  obtain ⟨_, E, hEf, hown, hc⟩ := h
  simp only at hEf hown
  have HE := Aside0.mk (show ∀ e ∈ E, ∃ A c, e.2.1 = .slice A e.2.2.length c from fun e he => by
    obtain ⟨A, c, h1, _⟩ := (hc e he).form
    exact ⟨A, c, h1⟩)
  have HF := Aside0.mk hEf
  have HR := Aside0.mk hr
  have HO := Aside0.mk hown
  obtain ⟨n, hn⟩ : ∃ n, E.length = n := ⟨_, rfl⟩
  rw [hn] at HO
  clear hEf hr hown hc hn
  go_enter Try.func42, Try.ntmps42
  go_wp2_with (first | (at_range; go_loud (refine wpList_range_own _ rfl _ _ rfl 9 59 law Try.underlying53 Rv b n _ rfl HO.out ?_; intro w1 hrg hg1 hs1)))
  have HG1 := Aside0.mk (show Below w.heap.size w w1 from ⟨hg1.os, hg1.tape, hg1.output, hg1.size, fun k hk => hg1.block k hk (by simp)⟩)
  have HRG := Aside0.mk hrg
  obtain ⟨r, hre⟩ : ∃ r, w.heap.size = r := ⟨_, rfl⟩
  rw [hre] at HRG HG1 ⊢
  clear hrg hg1 hs1
  go_loopw [3] (fun v3 wr => ∃ left cnt, v3 = .int .i64 (sumL left f : Nat) ∧ Aside0 (wr.ranges Try.prog 9 Rv b r n (mapD (mv (·.1) E)) left cnt) ∧ Aside0 (Below r w wr)) (fun _ wr => wr.rangeLeft b r)
  case atStart =>
    refine ⟨Maps.has (mapD (mv (·.1) E)), _, ?_, HRG, HG1⟩
    rw [sumL_zero fun p hp => ?_]
    · rfl
    · rw [mapD_has]
      rw [← HF.out] at hp
      obtain ⟨e, he, rfl⟩ := List.mem_map.1 hp
      rw [get_mv, Option.isSome_map]
      unfold DkP.get
      rw [Option.isSome_map, List.find?_isSome]
      exact ⟨e, he, by simp⟩
  case round =>
    obtain ⟨left, cnt, rfl, HRL, HBL⟩ := hrel
    have hle := sumL_le left f
    go_wp2_with (first | (at_next; go_loud (refine wpList_next_files rfl _ rfl HE.out rfl HRL.out ?_ ?_)))
    · intro hl
      have HL := Aside0.mk (show sumL left f = tot f from sumL_all fun p _ => hl _)
      clear hl
      go_wp2
      go_ret
      rw [HL.out, hre]
      exact ⟨rfl, HBL.out⟩
    · intro x A c s w2 cnt2 hlx hgs hrg2 hlt hgr2 hen
      have HST := Aside0.mk (sumL_step HR.out hlx (HF.out ▸ hgs))
      have HRG2 := Aside0.mk hrg2
      have HB2 := Aside0.mk (show Below r w w2 from ⟨hgr2.os.trans HBL.out.os, hgr2.tape.trans HBL.out.tape, hgr2.output.trans HBL.out.output, Nat.le_trans HBL.out.size hgr2.size, fun k hk => (hgr2.block k (Nat.lt_of_lt_of_le (hre ▸ hk) HBL.out.size) (by simp; omega)).trans (HBL.out.block k hk)⟩)
      have HLE := Aside0.mk (sumL_le (fun z => left z && !z.sameKey (.string (nm x))) f)
      have HM := Aside0.mk (show w2.rangeLeft b r < wr.rangeLeft b r by rw [hrg2.left_eq, HRL.out.left_eq]; exact hlt)
      clear hlx hgs hrg2 hlt hgr2
      go_wp2
      go_roundw
      case measure => exact HM.out
      case rel =>
        refine ⟨_, cnt2, ?_, HRG2, HB2⟩
        have e := HST.out
        have := HLE.out
        rw [e] at this ⊢
        congr 1
        simp only [wrap64]
        omega
set_option maxHeartbeats 4000000 in
set_option maxRecDepth 100000 in
theorem Clone_calls (w : World) (b : Nat) (es : Array MapEntry) (clock : Nat) (hb : w.heap[b]? = some (.map es clock)) :
    Calls Try.prog 40 #[.map (some b)] w fun e w' => e = .returned (.map (some w.heap.size)) ∧ w' = w.alloc (.map es clock) := by
  have hq := fun w => run_eql_map_nil_sl (P := Try.prog) w 53 _ _ (some b) Try.underlying53
  go_enter Try.func40, Try.ntmps40
  go_wp2
  rw [run_callFunc_extern Try.func51 (by kernel_rfl) (by kernel_rfl) (by kernel_rfl) (e := Extern.MapsClone.clone) (by kernel_rfl), run_maps_clone_sl w 53 hb]
  simp only [Result.andThen]
  rw [Oper.upon_value]
  go_wp2
  rw [run_typeAssert_map_sl _ 53 20 _ _ _ Try.underlying53]
  simp only [Result.andThen]
  rw [Oper.upon_value]
  go_wp2
  go_ret
  exact ⟨rfl, rfl⟩
end Go.Proofs.Ytlngljhinboglaa.DkT
namespace Go.Proofs.Ytlngljhinboglaa.DkV
open Go.RowKit Go.WideMaps Go.ChangeMaps Go.MapKept Go.Maps Go.Lib Go.Proofs.YtlngljhinboglaaW.PrintWords Go.Proofs.YtlngljhinboglaaW.PrintLast Go.Proofs.YtlngljhinboglaaW.PrintMore Go.Proofs.Ytlngljhinboglaa.Sl Go.Proofs.Ytlngljhinboglaa.DkP Go.Proofs.Ytlngljhinboglaa.DkS Go.Proofs.Ytlngljhinboglaa.DkW Go.Proofs.Ytlngljhinboglaa.DkT
set_option linter.unusedVariables false
set_option linter.unusedSimpArgs false
/-! Bounds. -/
def wt : List Ch → Nat
  | [] => 0
  | c :: r => c.size + wt r
theorem wt_append : ∀ (a b : List Ch), wt (a ++ b) = wt a + wt b
  | [], b => by simp [wt]
  | c :: r, b => by rw [List.cons_append, wt, wt, wt_append r b]; omega
def Fit (c : Ch) : Prop := match c with
  | .app a s => a.size ≤ 40 ∧ s.size ≤ 68719476736
  | .ren a b => a.size ≤ 40 ∧ b.size ≤ 40
  | .rem a => a.size ≤ 40
theorem go_tot {c : Ch} {n : Nat} (hn : n ≤ c.size) {l : FS Cnt} (h : Rising l) : tot (c.go n l) ≤ tot l + c.size := by
  cases c with
  | app a s =>
    have := tot_put (k := nm a) (v := (get (nm a) l).getD [] ++ s.data.toList.take n) h
    rw [List.length_append, List.length_take] at this
    simp only [Ch.go, Ch.size] at hn ⊢
    omega
  | ren a b =>
    have h1 := tot_del (k := nm a) h
    have h2 := tot_put (k := nm b) (v := (get (nm a) l).getD []) (h.del (nm a))
    simp only [Ch.go, Ch.size]
    omega
  | rem a =>
    have h1 := tot_del (k := nm a) h
    simp only [Ch.go, Ch.size]
    omega
theorem len_le_tot {k : Nm} {f : FS Cnt} (h : Rising f) : ((get k f).getD []).length ≤ tot f := by
  have := tot_del (k := k) h
  omega
theorem crashF_ok (keep part : Int) : ∀ (r : List Ch) (i : Nat) {l : FS Cnt}, Rising l → Rising (crashF keep part i r l) ∧ (crashF keep part i r l).length ≤ l.length + r.length ∧ tot (crashF keep part i r l) ≤ tot l + wt r
  | [], i, l, h => ⟨h, Nat.le_refl _, Nat.le_refl _⟩
  | c :: r, i, l, h => by
    rw [crashF]
    split
    · obtain ⟨h1, h2, h3⟩ := crashF_ok keep part r (i + 1) (c.go_rising c.size h)
      have h4 := c.go_length c.size l
      have h5 := go_tot (Nat.le_refl c.size) h
      refine ⟨h1, ?_, ?_⟩
      · rw [List.length_cons]; omega
      · rw [wt]; omega
    · split
      · have h4 := c.go_length (min part (c.size : Int)).toNat l
        have h5 := go_tot (c := c) (n := (min part (c.size : Int)).toNat) (by omega) h
        refine ⟨c.go_rising _ h, ?_, ?_⟩
        · rw [List.length_cons]; omega
        · rw [wt]; omega
      · refine ⟨h, ?_, ?_⟩
        · rw [List.length_cons]; omega
        · rw [wt]; omega
structure Ok (d : DS) (N S : Nat) : Prop where
  rf : Rising d.files
  rl : Rising d.lasting
  nf : d.files.length ≤ N
  nl : d.lasting.length + d.pend.length ≤ N
  tf : tot d.files ≤ S
  tl : tot d.lasting + wt d.pend ≤ S
  op0 : 0 ≤ d.ops
  op1 : d.ops ≤ N
  l0 : -1 ≤ d.left
  l1 : d.left ≤ 9223372036854775807
  nm : ∀ c ∈ d.pend, Fit c
theorem Ok.mono {d : DS} {N S N' S' : Nat} (h : Ok d N S) (hN : N ≤ N') (hS : S ≤ S') : Ok d N' S' :=
  ⟨h.rf, h.rl, Nat.le_trans h.nf hN, Nat.le_trans h.nl hN, Nat.le_trans h.tf hS, Nat.le_trans h.tl hS, h.op0, by have := h.op1; omega, h.l0, h.l1, h.nm⟩
theorem Ok.crash {d : DS} {N S : Nat} (h : Ok d N S) (keep part : Int) : Ok (d.crash keep part) N S := by
  unfold DS.crash
  split
  · exact h
  · obtain ⟨h1, h2, h3⟩ := crashF_ok keep part d.pend 0 h.rl
    have := h.nl
    have := h.tl
    exact ⟨h1, h1, by simp only; omega, by simp only [List.length_nil]; omega, by simp only; omega, by simp only [wt]; omega, h.op0, h.op1, by simp, by simp, fun c hc => by cases hc⟩
/-! A disk, at block g. -/
abbrev FC := (Fn × Array Value) × Bool × Int
def kFC : Kd FC := Kd.pair (Kd.scalar (fun p : Fn × Array Value => .func p.1 #[] p.2) (fun _ => rfl)) (Kd.pair Kd.bool (Kd.int .i64))
theorem kFC_open {w : World} {x : FC} {cs : List Value} (h : kFC.K w x cs) : cs = [.func x.1.1 #[] x.1.2, .bool x.2.1, .int .i64 x.2.2] := by
  obtain ⟨_, _, rfl, rfl, ⟨_, _, rfl, rfl, rfl⟩⟩ := h
  exact rfl
theorem kFC_mkM (w : World) (base : Nat) (ok : Nat → Prop) (x : FC) : kFC.M w base ok x [.func x.1.1 #[] x.1.2, .bool x.2.1, .int .i64 x.2.2] := ⟨[.func x.1.1 #[] x.1.2], [.bool x.2.1, .int .i64 x.2.2], rfl, rfl, ⟨[.bool x.2.1], [.int .i64 x.2.2], rfl, rfl, rfl⟩⟩
def zFC : FC := ((.func 0, #[]), false, 0)
theorem at_FC {w : World} {A : Option Addr} {n : Nat} {xs : List FC} (h : Kd.C kFC w A n xs) (i : Nat) (h1 : i < n) : ∃ ad , A = some ad ∧ w.cell? (ad.add (i * 3)) = some (.func (xs.getD i zFC).1.1 #[] (xs.getD i zFC).1.2) ∧ w.cell? ⟨(ad.add (i * 3)).block, (ad.add (i * 3)).off + 1, none⟩ = some (.bool (xs.getD i zFC).2.1) ∧ w.cell? ⟨(ad.add (i * 3)).block, (ad.add (i * 3)).off + 2, none⟩ = some (.int .i64 (xs.getD i zFC).2.2) := by
  obtain ⟨ad, c, e, _, hK, hc0⟩ := Kd.C_get h zFC (i : Int) (by omega) (by omega)
  rw [Int.toNat_natCast] at hK hc0
  have hc : ∀ j u, c[j]? = some u → w.cell? (ad.add (i * 3 + j)) = some u := hc0
  obtain rfl := kFC_open hK
  exact ⟨ad, e, hc 0 _ rfl, by rw [← add_field _ _ 1 (by omega)]; exact hc 1 _ rfl, by rw [← add_field _ _ 2 (by omega)]; exact hc 2 _ rfl⟩
/-- A closure that does a change. -/
def FnOf (w : World) (F : Nat → Prop) (p : FC) : Ch → Prop
  | .app a s => ∃ x y, p = ((.func 30, #[.pointer (some ⟨x, 0, none⟩), .pointer (some ⟨y, 0, none⟩)]), true, (s.size : Int)) ∧ F x ∧ F y ∧ Str x a w ∧ Str y s w
  | .ren a b => ∃ x y, p = ((.func 46, #[.pointer (some ⟨x, 0, none⟩), .pointer (some ⟨y, 0, none⟩)]), false, 0) ∧ F x ∧ F y ∧ Str x a w ∧ Str y b w
  | .rem a => ∃ x, p = ((.func 32, #[.pointer (some ⟨x, 0, none⟩)]), false, 0) ∧ F x ∧ Str x a w
theorem FnOf.loc {w w' : World} {F F' : Nat → Prop} {p : FC} {c : Ch} (h : FnOf w F p c) (hF : ∀ k, F k → F' k) (hw : ∀ k, F k → w'.heap[k]? = w.heap[k]?) : FnOf w' F' p c := by
  cases c with
  | app a s =>
    obtain ⟨x, y, e, f1, f2, s1, s2⟩ := h
    exact ⟨x, y, e, hF _ f1, hF _ f2, (hw _ f1).trans s1, (hw _ f2).trans s2⟩
  | ren a b =>
    obtain ⟨x, y, e, f1, f2, s1, s2⟩ := h
    exact ⟨x, y, e, hF _ f1, hF _ f2, (hw _ f1).trans s1, (hw _ f2).trans s2⟩
  | rem a =>
    obtain ⟨x, e, f1, s1⟩ := h
    exact ⟨x, e, hF _ f1, (hw _ f1).trans s1⟩
def Caps (ps : List FC) (cs : List Ch) : Asn := ⟨fun B w F => ps.length = cs.length ∧ ∀ (i : Nat) (p : FC) (c : Ch), ps[i]? = some p → cs[i]? = some c → FnOf w F p c, fun ⟨h1, h2⟩ hw => ⟨h1, fun i p c hp hc => (h2 i p c hp hc).loc (fun _ h => h) hw⟩⟩
theorem Caps.start {w0 w : World} {L : List Asn} (h : Sat w0 w L) : Sat w0 w (Caps [] [] :: L) := ⟨h.below, fun _ => False, ⟨rfl, fun i p c hp => by simp at hp⟩, fun _ hk => hk.elim, h.seps.mono (fun _ hk => ⟨hk, fun h => h⟩)⟩
theorem Caps.len {w0 w : World} {L : List Asn} {ps : List FC} {cs : List Ch} (h : Sat w0 w (Caps ps cs :: L)) : ps.length = cs.length := by
  obtain ⟨G, hg, _⟩ := h.get
  exact hg.1
theorem Caps.at_ {w0 w : World} {L : List Asn} {ps : List FC} {cs : List Ch} (h : Sat w0 w (Caps ps cs :: L)) {i : Nat} {c : Ch} (hc : cs[i]? = some c) : FnOf w (fun k => w0.heap.size ≤ k ∧ k < w.heap.size) (ps.getD i zFC) c := by
  obtain ⟨G, hg, hb⟩ := h.get
  have hi : i < ps.length := by rw [hg.1]; exact (List.getElem?_eq_some_iff.1 hc).1
  have := hg.2 i (ps.getD i zFC) c (by rw [List.getElem?_eq_getElem hi, List.getD, List.getElem?_eq_getElem hi]; rfl) hc
  exact this.loc hb fun _ _ => rfl
def cellsOf (d : DS) (fb lb : Nat) (pv : Value) : Array Value := #[.int .i64 d.room, .int .i64 (tot d.files : Nat), .map (some fb), .map (some lb), pv, .int .i64 d.ops, .int .i64 d.left, .int .i64 d.keep, .int .i64 d.part, .bool d.dead]
def Dk (g : Nat) (d : DS) : Asn := Ex fun q : Nat × Nat × Value × List FC => All [Blk g (cellsOf d q.1 q.2.1 q.2.2.1) 56, Store [(q.1, d.files), (q.2.1, d.lasting)] [], Row kFC 63 q.2.2.1 q.2.2.2, Caps q.2.2.2 d.pend]
theorem Dk.open {w0 w : World} {L : List Asn} {g : Nat} {d : DS} (h : Sat w0 w (Dk g d :: L)) : ∃ fb lb A c ps, ps.length = d.pend.length ∧ ps.length ≤ c ∧
    Sat w0 w (Blk g (cellsOf d fb lb (.slice A d.pend.length c)) 56 :: Store [(fb, d.files), (lb, d.lasting)] [] :: Row kFC 63 (.slice A d.pend.length c) ps :: Caps ps d.pend :: L) := by
  obtain ⟨⟨fb, lb, pv, ps⟩, h1⟩ := h.some_
  have h2 := h1.opened
  obtain ⟨A, c, e, hc, _⟩ := (h2.nth 2 rfl).rowSlice
  have hl := Caps.len (h2.nth 3 rfl)
  simp only at e hc hl h2
  refine ⟨fb, lb, A, c, ps, hl, hc, ?_⟩
  rw [← hl, ← e]
  exact h2
theorem Dk.mk {w0 w : World} {L : List Asn} {g : Nat} {d : DS} {fb lb : Nat} {pv : Value} {ps : List FC} (h : Sat w0 w (Blk g (cellsOf d fb lb pv) 56 :: Store [(fb, d.files), (lb, d.lasting)] [] :: Row kFC 63 pv ps :: Caps ps d.pend :: L)) : Sat w0 w (Dk g d :: L) := Sat.any (fb, lb, pv, ps) (Sat.closed h)
end Go.Proofs.Ytlngljhinboglaa.DkV
