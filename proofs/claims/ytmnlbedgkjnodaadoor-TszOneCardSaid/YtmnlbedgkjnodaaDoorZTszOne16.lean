/- What a decoder's readings may be: bounds. And its calls, by what they tell.
   What the call of the codec's decoder's points comes to.
   What functions of the translation come to, each as a Lean function, and a proof that the call comes to just that; or a law's row, out of its plain law. Written by mp.py, a program of this session, which runs the printer of the kit with stand-in bodies for some library functions. -/
import Derived.Test.YtmnlbedgkjnodaaDoorZTszOne12
import Derived.Test.YtmnlbedgkjnodaaDoorZTszOne8
import Derived.Test.YtmnlbedgkjnodaaDoorZTszOne0
import Derived.Test.YtmnlbedgkjnodaaDoorZTszOne3
set_option linter.unusedSimpArgs false
set_option linter.unusedVariables false
namespace Go.Proofs.YtmnlbedgkjnodaaDoor.TdW
open Go.RowKit Go.Proofs.YtmnlbedgkjnodaaDoorW.PrintWords Go.Proofs.YtmnlbedgkjnodaaDoorW.PrintLast Go.Proofs.YtmnlbedgkjnodaaDoorW.PrintMore Go.Proofs.YtmnlbedgkjnodaaDoor.QB Go.Proofs.YtmnlbedgkjnodaaDoor.Sl Go.Proofs.YtmnlbedgkjnodaaDoor.Bt Go.Proofs.YtmnlbedgkjnodaaDoor.WrW Go.Proofs.YtmnlbedgkjnodaaDoor.RdW Go.Proofs.YtmnlbedgkjnodaaDoor.TzP Go.Proofs.YtmnlbedgkjnodaaDoor.TzW Go.Proofs.YtmnlbedgkjnodaaDoor.TeP Go.Proofs.YtmnlbedgkjnodaaDoor.TdP Go.Proofs.YtmnlbedgkjnodaaDoor.Ld
theorem gb_some {b : List Int} {p n v q : Nat} (hn : n ≤ 64) (hp : p ≤ 8 * b.length) (h : gb b p n = some (v, q)) : v < 2 ^ n ∧ v < 18446744073709551616 ∧ q ≤ 8 * b.length := by
  unfold gb at h
  split at h
  · have h := Option.some.inj h
    simp only [Prod.mk.injEq] at h
    obtain ⟨rfl, rfl⟩ := h
    have h1 := getN_lt b p n hn
    exact ⟨h1, Nat.lt_of_lt_of_le h1 (show 2 ^ n ≤ 2 ^ 64 from Nat.pow_le_pow_right (by omega) hn), by omega⟩
  · cases h
theorem timeGo_some {b : List Int} {x : Int} {q : Nat} : ∀ (fs : List (Nat × Nat)) (p : Nat), (∀ f ∈ fs, f.1 ≤ 12 ∧ f.2 ≤ 2047) → p ≤ 8 * b.length → timeGo b fs p = some (x, q) → (-9223372036854775808 ≤ x ∧ x < 9223372036854775808) ∧ q ≤ 8 * b.length
  | [], p, _, hp, h => by
    unfold timeGo at h
    obtain ⟨⟨v, q'⟩, h1, h2⟩ := Option.map_eq_some_iff.1 h
    simp only [Prod.mk.injEq] at h2
    obtain ⟨rfl, rfl⟩ := h2
    have h3 := gb_some (by omega) hp h1
    exact ⟨by unfold wrap64; omega, h3.2.2⟩
  | f :: fs, p, hf, hp, h => by
    unfold timeGo at h
    obtain ⟨⟨v, q'⟩, h1, h2⟩ := Option.bind_eq_some_iff.1 h
    have h3 := gb_some (by omega) hp h1
    simp only at h2
    split at h2
    · obtain ⟨⟨u, q2⟩, h4, h5⟩ := Option.map_eq_some_iff.1 h2
      simp only [Prod.mk.injEq] at h5
      obtain ⟨rfl, rfl⟩ := h5
      have hff := hf f List.mem_cons_self
      have h6 := gb_some (by omega) h3.2.2 h4
      have h7 : u < 4096 := Nat.lt_of_lt_of_le h6.1 (Nat.le_trans (Nat.pow_le_pow_right (by omega) hff.1) (by decide))
      exact ⟨by omega, h6.2.2⟩
    · exact timeGo_some fs q' (fun g hg => hf g (List.mem_cons_of_mem _ hg)) h3.2.2 h2
theorem timeP_some {b : List Int} {p q : Nat} {x : Int} (hp : p ≤ 8 * b.length) (h : timeP b p = some (x, q)) : (-9223372036854775808 ≤ x ∧ x < 9223372036854775808) ∧ q ≤ 8 * b.length := by
  unfold timeP at h
  obtain ⟨⟨v, q'⟩, h1, h2⟩ := Option.bind_eq_some_iff.1 h
  have h3 := gb_some (by omega) hp h1
  simp only at h2
  split at h2
  · have h2 := Option.some.inj h2
    simp only [Prod.mk.injEq] at h2
    obtain ⟨rfl, rfl⟩ := h2
    exact ⟨by omega, h3.2.2⟩
  · exact timeGo_some formsP q' (by decide) h3.2.2 h2
theorem finP_some {b : List Int} {p q a t y : Nat} {w : Win} (hat : a + t ≤ 63) (ha : a ≤ 31) (hp : p ≤ 8 * b.length) (h : finP b p a t = some ((y, w), q)) : y < 18446744073709551616 ∧ w.Ok ∧ q ≤ 8 * b.length := by
  unfold finP at h
  obtain ⟨⟨v, q'⟩, h1, h2⟩ := Option.map_eq_some_iff.1 h
  simp only [Prod.mk.injEq] at h2
  obtain ⟨⟨rfl, rfl⟩, rfl⟩ := h2
  have h3 := gb_some (by omega) hp h1
  exact ⟨Nat.mod_lt _ (by omega), (fun r hr => by cases hr; exact ⟨ha, hat⟩), h3.2.2⟩
theorem valueP_some {b : List Int} {p q y : Nat} {x w : Win} (hx : x.Ok) (hp : p ≤ 8 * b.length) (h : valueP b p x = some ((y, w), q)) : y < 18446744073709551616 ∧ w.Ok ∧ q ≤ 8 * b.length := by
  unfold valueP at h
  obtain ⟨⟨v, q'⟩, h1, h2⟩ := Option.bind_eq_some_iff.1 h
  have h3 := gb_some (by omega) hp h1
  simp only at h2
  split at h2
  · have h2 := Option.some.inj h2
    simp only [Prod.mk.injEq] at h2
    obtain ⟨⟨rfl, rfl⟩, rfl⟩ := h2
    exact ⟨by omega, hx, h3.2.2⟩
  · obtain ⟨⟨u, q2⟩, h4, h5⟩ := Option.bind_eq_some_iff.1 h2
    have h6 := gb_some (by omega) h3.2.2 h4
    simp only at h5
    split at h5
    · unfold wideP at h5
      obtain ⟨⟨a, q3⟩, h7, h8⟩ := Option.bind_eq_some_iff.1 h5
      have h9 := gb_some (by omega) h6.2.2 h7
      obtain ⟨⟨n, q4⟩, h10, h11⟩ := Option.bind_eq_some_iff.1 h8
      have h12 := gb_some (by omega) h9.2.2 h10
      simp only at h11
      split at h11
      · cases h11
      · exact finP_some (by omega) (by omega) h12.2.2 h11
    · cases x with
      | none => cases h5
      | some r =>
        have hr := hx r rfl
        exact finP_some hr.2 hr.1 h6.2.2 h5
theorem dtime_some (w0 w : World) (L : List Asn) (g : Nat) (b : List Int) (p q : Nat) (x : Int) (hb : b.length ≤ 1099511627776) (hby : ∀ x ∈ b, 0 ≤ x ∧ x < 256) (hp : p ≤ 8 * b.length) (hr : timeP b p = some (x, q)) (h : Sat w0 w (Rd g b p :: L)) :
    Calls Tryd.prog 54 #[.agg #[.pointer (some ⟨g, 0, none⟩)]] w fun e w' => e = .returned (.int .i64 x) ∧ Sat w0 w' (Rd g b q :: L) := by
  refine (dtime_calls w0 w L g b p hb hby hp h).mono ?_
  intro e w' h1
  rw [hr] at h1
  exact h1
theorem dtime_none (w0 w : World) (L : List Asn) (g : Nat) (b : List Int) (p : Nat) (hb : b.length ≤ 1099511627776) (hby : ∀ x ∈ b, 0 ≤ x ∧ x < 256) (hp : p ≤ 8 * b.length) (hr : timeP b p = none) (h : Sat w0 w (Rd g b p :: L)) :
    Calls Tryd.prog 54 #[.agg #[.pointer (some ⟨g, 0, none⟩)]] w fun e w' => e = .panicked [wrongE] ∧ ∃ q, Sat w0 w' (Rd g b q :: L) := by
  refine (dtime_calls w0 w L g b p hb hby hp h).mono ?_
  intro e w' h1
  rw [hr] at h1
  exact h1
theorem dvalue_some (w0 w : World) (L : List Asn) (g : Nat) (b : List Int) (p q y : Nat) (x u : Win) (hx : x.Ok) (hb : b.length ≤ 1099511627776) (hby : ∀ x ∈ b, 0 ≤ x ∧ x < 256) (hp : p ≤ 8 * b.length) (hr : valueP b p x = some ((y, u), q)) (h : Sat w0 w (Rd g b p :: L)) :
    Calls Tryd.prog 55 #[.agg #[.pointer (some ⟨g, 0, none⟩)], .agg #[.int .i64 (wl x), .int .i64 (wt x)]] w fun e w' => e = .returned (.tuple #[.int .u64 y, .agg #[.int .i64 (wl u), .int .i64 (wt u)]]) ∧ Sat w0 w' (Rd g b q :: L) := by
  refine (dvalue_calls w0 w L g b p x hx hb hby hp h).mono ?_
  intro e w' h1
  rw [hr] at h1
  exact h1
theorem dvalue_none (w0 w : World) (L : List Asn) (g : Nat) (b : List Int) (p : Nat) (x : Win) (hx : x.Ok) (hb : b.length ≤ 1099511627776) (hby : ∀ x ∈ b, 0 ≤ x ∧ x < 256) (hp : p ≤ 8 * b.length) (hr : valueP b p x = none) (h : Sat w0 w (Rd g b p :: L)) :
    Calls Tryd.prog 55 #[.agg #[.pointer (some ⟨g, 0, none⟩)], .agg #[.int .i64 (wl x), .int .i64 (wt x)]] w fun e w' => e = .panicked [wrongE] ∧ ∃ q, Sat w0 w' (Rd g b q :: L) := by
  refine (dvalue_calls w0 w L g b p x hx hb hby hp h).mono ?_
  intro e w' h1
  rw [hr] at h1
  exact h1
end Go.Proofs.YtmnlbedgkjnodaaDoor.TdW
namespace Go.Proofs.YtmnlbedgkjnodaaDoor.TdW
open Go.RowKit Go.Proofs.YtmnlbedgkjnodaaDoorW.PrintWords Go.Proofs.YtmnlbedgkjnodaaDoorW.PrintLast Go.Proofs.YtmnlbedgkjnodaaDoorW.PrintMore Go.Proofs.YtmnlbedgkjnodaaDoor.QB Go.Proofs.YtmnlbedgkjnodaaDoor.Sl Go.Proofs.YtmnlbedgkjnodaaDoor.Bt Go.Proofs.YtmnlbedgkjnodaaDoor.WrW Go.Proofs.YtmnlbedgkjnodaaDoor.RdW Go.Proofs.YtmnlbedgkjnodaaDoor.TzP Go.Proofs.YtmnlbedgkjnodaaDoor.TzW Go.Proofs.YtmnlbedgkjnodaaDoor.TeP Go.Proofs.YtmnlbedgkjnodaaDoor.TeW Go.Proofs.YtmnlbedgkjnodaaDoor.TdP Go.Proofs.YtmnlbedgkjnodaaDoor.Ld
attribute [local go_sem] max2_int min2_int max_two min_two
def PtsOut (o : Option (List Pt)) (w0 : World) (L : List Asn) (g : Nat) (b : List Int) (e : Ending) (w' : World) : Prop :=
  match o with
  | some l => ∃ v q, e = .returned v ∧ OkL l ∧ Sat w0 w' (Row k33 33 v l :: Rd g b q :: L)
  | none => e = .panicked [wrongE] ∧ ∃ q, Sat w0 w' (Rd g b q :: L)
theorem PtsOut.ok {o : Option (List Pt)} {w0 : World} {L : List Asn} {g : Nat} {b : List Int} {e : Ending} {w' : World} {l : List Pt} {v : Value} {q : Nat} (ho : o = some l) (he : e = .returned v) (hl : OkL l) (hs : Sat w0 w' (Row k33 33 v l :: Rd g b q :: L)) : PtsOut o w0 L g b e w' := by
  subst ho
  exact ⟨v, q, he, hl, hs⟩
theorem PtsOut.bad {o : Option (List Pt)} {w0 : World} {L : List Asn} {g : Nat} {b : List Int} {e : Ending} {w' : World} {q : Nat} (ho : o = none) (he : e = .panicked [wrongE]) (hs : Sat w0 w' (Rd g b q :: L)) : PtsOut o w0 L g b e w' := by
  subst ho
  exact ⟨he, q, hs⟩
theorem drop4 {w0 w : World} {A B C D E : Asn} {L : List Asn} (h : Sat w0 w (A :: B :: C :: D :: E :: L)) : Sat w0 w (A :: L) :=
  drop3 ((h.nth 1 rfl).tail)
theorem okL_nil : OkL [] := fun p hp => by cases hp
theorem okL_snoc {l : List Pt} {p : Pt} (h : OkL l) (hp : okPt p) : OkL (l ++ [p]) := fun q hq => by
  rcases List.mem_append.1 hq with h1 | h1
  · exact h q h1
  · rw [List.mem_singleton.1 h1]; exact hp
theorem wrap64_range (x : Int) : -9223372036854775808 ≤ wrap64 x ∧ wrap64 x < 9223372036854775808 := by unfold wrap64; omega
theorem goP_more {b : List Int} {m : Nat} {l : List Pt} {st : St} {p : Nat} (h : l.length ≠ 0) : goP b (m + 1) l st p = (nextP b p (l.getD (l.length - 1) zp) st.1 st.2.1 st.2.2).bind fun r => goP b m (l ++ [r.1.1]) r.1.2 r.2 := by rw [goP, if_neg h]
theorem head_bind {α : Type} (b : List Int) (p : Nat) (f : Pt × Nat → Option α) : (headP b p).bind f = (gb b p 64).bind fun t => (gb b t.2 64).bind fun v => (gb b v.2 64).bind fun s => f (⟨wrap64 (t.1 : Int), (v.1 : Int), (s.1 : Int)⟩, s.2) := by
  unfold headP
  cases gb b p 64 with
  | none => rfl
  | some t =>
    simp only [Option.bind_some]
    cases gb b t.2 64 with
    | none => rfl
    | some v =>
      simp only [Option.bind_some]
      cases gb b v.2 64 <;> rfl
theorem next_bind {α : Type} (b : List Int) (p : Nat) (q : Pt) (d : Int) (v s : Win) (f : (Pt × St) × Nat → Option α) : (nextP b p q d v s).bind f = (timeP b p).bind fun x => (valueP b x.2 v).bind fun y => (valueP b y.2 s).bind fun z =>
    f ((⟨wrap64 (q.f0 + wrap64 (d + x.1)), ((q.f1.toNat ^^^ y.1.1 : Nat) : Int), ((q.f2.toNat ^^^ z.1.1 : Nat) : Int)⟩, (wrap64 (d + x.1), y.1.2, z.1.2)), z.2) := by
  unfold nextP
  cases timeP b p with
  | none => rfl
  | some x =>
    simp only [Option.bind_some]
    cases valueP b x.2 v with
    | none => rfl
    | some y =>
      simp only [Option.bind_some]
      cases valueP b y.2 s <;> rfl
def Dp.T7 : Bool × List (List Nat × List Nat) := (true, [([], []), ([], []), ([1], [1]), ([2], [2]), ([], []), ([4, 2], [4]), ([], []), ([6, 5], [6]), ([3, 5, 7], [3, 5, 7]), ([8], [8]), ([0, 9, 7], [0, 9]), ([10, 10, 0, 1, 2, 3, 4, 5, 6, 7, 8, 9, 10], [0, 10])])
def Dp.B7 : List Nat := [0, 0, 2, 6, 0, 22, 0, 118, 254, 510, 1023, 2047]
theorem Dp.tab7 : rtab .any (opsOf Tryd.f37 7) = Dp.T7 := by kernel_rfl
theorem Dp.bits7 : waitsOk Dp.T7.2 Dp.B7 = true := by kernel_rfl
set_option maxHeartbeats 16000000 in
set_option maxRecDepth 100000 in
theorem dpoints_calls (w0 w : World) (L : List Asn) (g : Nat) (b : List Int) (n : Nat) (hn : n ≤ 512) (hb : b.length ≤ 1099511627776) (hby : ∀ x ∈ b, 0 ≤ x ∧ x < 256) (hL : LaidW w0) (h : Sat w0 w (Rd g b 0 :: L)) :
    Calls Tryd.prog 37 #[.agg #[.pointer (some ⟨g, 0, none⟩)], .int .i64 (n : Int)] w (PtsOut (pointsP b n) w0 L g b) := by
  have H1 := Aside0.mk (show Sat w0 _ (Rd g b 0 :: Blk w.heap.size #[.pointer (some ⟨g, 0, none⟩)] 70 :: L) from (h.newBlk #[.pointer (some ⟨g, 0, none⟩)] 70).nth 1 rfl)
  have HBY := Aside0.mk hby
  have HL := Aside0.mk hL
  clear h hby hL
  obtain ⟨i0, hi0, hz0, hsz0, hby0⟩ := info_parts info33
  have hmk : ∀ W : World, (Instr.makeSlice 22 (.int .i64 0) (.int .i64 (n : Int))).run Tryd.prog W = .ok (.slice (some ⟨W.heap.size, 0, none⟩) 0 n) (W.alloc (.cells (madeCells #[.int .i64 0, .int .u64 0, .int .u64 0] (n * 3)) 33)) := by
    intro W
    have hr := run_makeSlice (P := Tryd.prog) (w := W) 22 33 i0 (.agg #[.int .i64 0, .int .u64 0, .int .u64 0]) Tryd.underlying22 hi0 hz0 .i64 .i64 0 (n : Int) (Int.le_refl _) (by omega) (by rw [hsz0]; omega) (by rw [hby0]; omega) (by omega)
    rw [hsz0, Int.toNat_zero, Int.toNat_natCast] at hr
    exact hr
  clear hi0 hz0 hsz0 hby0
  go_enter Tryd.func37, Tryd.ntmps37
  go_upto_region 1 with (fail)
  generalize w.alloc (.cells #[.pointer (some ⟨g, 0, none⟩)] 70) = w1 at H1 ⊢
  generalize w.heap.size = gd at H1 ⊢
  go_upto_region 2 with (fail)
  have H2 := Aside0.mk (show Sat w0 _ (Row k33 33 (.slice (some ⟨w1.heap.size, 0, none⟩) 0 n) [] :: Rd g b 0 :: Blk gd #[.pointer (some ⟨g, 0, none⟩)] 70 :: L) from Sat.madeRow k33 33 n (madeCells #[.int .i64 0, .int .u64 0, .int .u64 0] (n * 3)) (by unfold maxLen; omega) (size_madeCells _ _) H1.out)
  clear hmk
  generalize w1.alloc (.cells (madeCells #[.int .i64 0, .int .u64 0, .int .u64 0] (n * 3)) 33) = w2 at H2 ⊢
  generalize w1.heap.size = g5 at H2 ⊢
  clear H1
  go_cut [6, 7, 8] (fun v6 v7 v8 wc => ∃ g6 g7 : Nat, v6 = .pointer (some ⟨g6, 0, none⟩) ∧ v7 = .pointer (some ⟨g7, 0, none⟩) ∧ v8 = .int .i64 0 ∧ Aside0 (Sat w0 wc (Rd g b 0 :: Row k33 33 (.slice (some ⟨g5, 0, none⟩) 0 n) [] :: Blk g6 #[.int .i64 (-1), .int .i64 (-1)] 47 :: Blk g7 #[.int .i64 (-1), .int .i64 (-1)] 47 :: Blk gd #[.pointer (some ⟨g, 0, none⟩)] 70 :: L)))
  case first =>
    have hl2 := LaidW.below HL.out H2.out.below
    have n0 := hl2.2.1
    have n1 := hl2.2.2
    have hg := World.block_lt_of_cell? w2 _ n0
    clear hl2
    go_region
    all_goals (go_wp2_with fail; go_meet)
    · refine ⟨w2.heap.size, w2.heap.size + 1, rfl, rfl, rfl, ⟨?_⟩⟩
      have h := ((H2.out.newBlk #[.int .i64 (-1), .int .i64 (-1)] 47).newBlk #[.int .i64 (-1), .int .i64 (-1)] 47).drew
      rw [alloc_size] at h
      exact ((h.nth 1 rfl).nth 2 rfl).nth 3 rfl
    · refine ⟨w2.heap.size + 1, w2.heap.size, rfl, rfl, rfl, ⟨?_⟩⟩
      have h := ((H2.out.newBlk #[.int .i64 (-1), .int .i64 (-1)] 47).newBlk #[.int .i64 (-1), .int .i64 (-1)] 47).drew
      rw [alloc_size] at h
      exact (h.nth 2 rfl).nth 3 rfl
  case rest =>
    obtain ⟨g6, g7, rfl, rfl, rfl, H3⟩ := hcut
    clear H2
    go_wp2
    go_loopw [5, 8, 17] (fun s5 v8 v17 wr => ∃ (i p : Nat) (l : List Pt) (d : Int) (vw sw : Win) (v5 : Value), s5 = v5 ∧ i ≤ n ∧ Aside0 (l.length = i) ∧ v17 = .int .i64 i ∧ v8 = .int .i64 d ∧ p ≤ 8 * b.length ∧ (-9223372036854775808 ≤ d ∧ d < 9223372036854775808) ∧ Aside0 (pointsP b n = goP b (n - i) l (d, vw, sw) p) ∧ Aside0 vw.Ok ∧ Aside0 sw.Ok ∧ Aside0 (OkL l) ∧ Aside0 (Sat w0 wr (Rd g b p :: Row k33 33 v5 l :: Blk g6 #[.int .i64 (wl vw), .int .i64 (wt vw)] 47 :: Blk g7 #[.int .i64 (wl sw), .int .i64 (wt sw)] 47 :: Blk gd #[.pointer (some ⟨g, 0, none⟩)] 70 :: L))) (fun _ _ v17 _ => n - (intOf v17).toNat)
    case atStart => exact ⟨0, 0, [], 0, none, none, _, rfl, by omega, ⟨rfl⟩, rfl, rfl, by omega, by omega, ⟨rfl⟩, ⟨Win.ok_none⟩, ⟨Win.ok_none⟩, ⟨okL_nil⟩, H3⟩
    case round =>
      obtain ⟨i, p, l, d, vw, sw, v5, hvl, hi, HLI, rfl, rfl, hp, hd, HG, HVO, HSO, HOK, HR⟩ := hrel
      have hli := HLI.out
      replace hvl := hvl.symm
      subst hvl
      clear H3
      by_cases hlt : i < n
      · have d1 : decide ((i : Int) < (n : Int)) = true := decide_eq_true (by omega)
        have d2 : decide (i < n) = true := decide_eq_true hlt
        obtain ⟨m, hm⟩ : ∃ m, n - i = m + 1 := ⟨n - i - 1, by omega⟩
        by_cases hi0 : i = 0
        · subst hi0
          obtain rfl := List.eq_nil_of_length_eq_zero hli
          have HG2 := Aside0.mk (show pointsP b n = (headP b p).bind fun r => goP b m [r.1] (d, vw, sw) r.2 from by rw [HG.out, hm]; rfl)
          have q0 := (HR.out.drew.nth 4 rfl).cell 0 (v := .pointer (some ⟨g, 0, none⟩)) rfl
          have HD := Aside0.mk (show Sat w0 wr.drew (Rd g b p :: Row k33 33 v5 [] :: Blk g6 #[.int .i64 (wl vw), .int .i64 (wt vw)] 47 :: Blk g7 #[.int .i64 (wl sw), .int .i64 (wt sw)] 47 :: Blk gd #[.pointer (some ⟨g, 0, none⟩)] 70 :: L) from HR.out.drew)
          clear HG
          go_wp2_with fail
          by_cases hg1 : 64 ≤ 8 * b.length - p
          rotate_left
          · have HO := Aside0.mk (show pointsP b n = none from by rw [HG2.out, head_bind, gb_bad hg1]; rfl)
            refine start_ (n := 12) (S := fun w' => w'.cell? ⟨gd, 0, none⟩ = some (.pointer (some ⟨g, 0, none⟩))) (ds := []) #[false, false, false, false, false, false, false, false, false, false, false, false] (by kernel_rfl) rfl rfl (q0) (fun hHeld => ?_)
            refine with_tabW Dp.tab7 Dp.bits7 (fun HT_ HW_ => ?_)
            refine pure_ (i := 0) (N := some 22) (v := ?_) (a' := ?_) #[true, false, false, false, false, false, false, false, false, false, false, false] rfl rfl (any_of HT_.out (by kernel_rfl)) (fun _ _ _ h => h) (Or.inl ⟨by rfl, ?_⟩) ?_ ?_
            rotate_left
            · intro w'
              go_simp
              with_reducible rfl
            rotate_left
            · simp only [Act.put, List.setIfInBounds_toArray, List.set_cons_zero, List.set_cons_succ, i64_w, i32_w]
              rfl
            refine take_ (i := 1) (N := some 23) (v := ?_) (a' := ?_) #[true, true, false, false, false, false, false, false, false, false, false, false] rfl rfl (take_ofW HT_.out HW_.out (by kernel_rfl)) (fun _ _ _ h => h) (Or.inl ⟨by rfl, ?_⟩) hHeld ?_ ?_
            rotate_left
            · intro w' s0
              go_simp
              with_reducible rfl
            rotate_left
            · simp only [Act.put, List.setIfInBounds_toArray, List.set_cons_zero, List.set_cons_succ, i64_w, i32_w]
              rfl
            refine take_ (i := 4) (N := some 26) (v := ?_) (a' := ?_) #[true, true, false, false, true, false, false, false, false, false, false, false] rfl rfl (take_ofW HT_.out HW_.out (by kernel_rfl)) (fun _ _ _ h => h) (Or.inl ⟨by rfl, ?_⟩) hHeld ?_ ?_
            rotate_left
            · intro w' s0
              go_simp
              with_reducible rfl
            rotate_left
            · simp only [Act.put, List.setIfInBounds_toArray, List.set_cons_zero, List.set_cons_succ, i64_w, i32_w]
              rfl
            refine take_ (i := 6) (N := some 28) (v := ?_) (a' := ?_) #[true, true, false, false, true, false, true, false, false, false, false, false] rfl rfl (take_ofW HT_.out HW_.out (by kernel_rfl)) (fun _ _ _ h => h) (Or.inl ⟨by rfl, ?_⟩) hHeld ?_ ?_
            rotate_left
            · intro w' s0
              go_simp
              with_reducible rfl
            rotate_left
            · simp only [Act.put, List.setIfInBounds_toArray, List.set_cons_zero, List.set_cons_succ, i64_w, i32_w]
              rfl
            refine one_ (i := 2) (N := some 24) #[true, true, true, false, true, false, true, false, false, false, false, false] rfl rfl (one_of HT_.out (by kernel_rfl)) (by decide) (fun K hK => ?_)
            refine goesP_ Tryd.func53 (by kernel_rfl) rfl #[.agg #[.pointer (some ⟨g, 0, none⟩)], .int .i64 64] (by rfl) rfl (by simp only [List.map_toArray, List.map_cons, List.map_nil]; rfl) [wrongE] ?_
            with_reducible refine (dget_bad w0 _ _ g b p 64 64 rfl hb hp hg1 HD.out).mono ?_
            rintro e w1 ⟨rfl, hs1⟩
            refine ⟨rfl, ?_⟩
            have HBAD := Aside0.mk (show Sat w0 w1 (Rd g b p :: Row k33 33 v5 [] :: Blk g6 #[.int .i64 (wl vw), .int .i64 (wt vw)] 47 :: Blk g7 #[.int .i64 (wl sw), .int .i64 (wt sw)] 47 :: Blk gd #[.pointer (some ⟨g, 0, none⟩)] 70 :: L) from hs1)
            clear hs1
            exact ⟨rfl, PtsOut.bad HO.out rfl (drop4 HBAD.out)⟩
          obtain ⟨t, ht⟩ : ∃ t, getN b p 64 = t := ⟨_, rfl⟩
          have ht2 : t < 18446744073709551616 := by rw [← ht]; exact getN_lt b p 64 (by omega)
          obtain ⟨pa, hpae⟩ : ∃ pa, p + 64 = pa := ⟨_, rfl⟩
          have hpa : pa ≤ 8 * b.length := by omega
          have HT := Aside0.mk ht
          have HPA := Aside0.mk hpae
          have HG3 := Aside0.mk (show pointsP b n = (gb b pa 64).bind fun v => (gb b v.2 64).bind fun s => goP b m [⟨wrap64 (t : Int), (v.1 : Int), (s.1 : Int)⟩] (d, vw, sw) s.2 from by rw [HG2.out, head_bind, gb_ok hg1, ht, hpae]; rfl)
          clear hpae
          clear ht HG2
          by_cases hg2 : 64 ≤ 8 * b.length - pa
          rotate_left
          · have HO := Aside0.mk (show pointsP b n = none from by rw [HG3.out, gb_bad hg2]; rfl)
            refine start_ (n := 12) (S := fun w' => w'.cell? ⟨gd, 0, none⟩ = some (.pointer (some ⟨g, 0, none⟩))) (ds := []) #[false, false, false, false, false, false, false, false, false, false, false, false] (by kernel_rfl) rfl rfl (q0) (fun hHeld => ?_)
            refine with_tabW Dp.tab7 Dp.bits7 (fun HT_ HW_ => ?_)
            refine pure_ (i := 0) (N := some 22) (v := ?_) (a' := ?_) #[true, false, false, false, false, false, false, false, false, false, false, false] rfl rfl (any_of HT_.out (by kernel_rfl)) (fun _ _ _ h => h) (Or.inl ⟨by rfl, ?_⟩) ?_ ?_
            rotate_left
            · intro w'
              go_simp
              with_reducible rfl
            rotate_left
            · simp only [Act.put, List.setIfInBounds_toArray, List.set_cons_zero, List.set_cons_succ, i64_w, i32_w]
              rfl
            refine take_ (i := 1) (N := some 23) (v := ?_) (a' := ?_) #[true, true, false, false, false, false, false, false, false, false, false, false] rfl rfl (take_ofW HT_.out HW_.out (by kernel_rfl)) (fun _ _ _ h => h) (Or.inl ⟨by rfl, ?_⟩) hHeld ?_ ?_
            rotate_left
            · intro w' s0
              go_simp
              with_reducible rfl
            rotate_left
            · simp only [Act.put, List.setIfInBounds_toArray, List.set_cons_zero, List.set_cons_succ, i64_w, i32_w]
              rfl
            refine take_ (i := 4) (N := some 26) (v := ?_) (a' := ?_) #[true, true, false, false, true, false, false, false, false, false, false, false] rfl rfl (take_ofW HT_.out HW_.out (by kernel_rfl)) (fun _ _ _ h => h) (Or.inl ⟨by rfl, ?_⟩) hHeld ?_ ?_
            rotate_left
            · intro w' s0
              go_simp
              with_reducible rfl
            rotate_left
            · simp only [Act.put, List.setIfInBounds_toArray, List.set_cons_zero, List.set_cons_succ, i64_w, i32_w]
              rfl
            refine take_ (i := 6) (N := some 28) (v := ?_) (a' := ?_) #[true, true, false, false, true, false, true, false, false, false, false, false] rfl rfl (take_ofW HT_.out HW_.out (by kernel_rfl)) (fun _ _ _ h => h) (Or.inl ⟨by rfl, ?_⟩) hHeld ?_ ?_
            rotate_left
            · intro w' s0
              go_simp
              with_reducible rfl
            rotate_left
            · simp only [Act.put, List.setIfInBounds_toArray, List.set_cons_zero, List.set_cons_succ, i64_w, i32_w]
              rfl
            refine one_ (i := 2) (N := some 24) #[true, true, true, false, true, false, true, false, false, false, false, false] rfl rfl (one_of HT_.out (by kernel_rfl)) (by decide) (fun K hK => ?_)
            refine goes_ Tryd.func53 (by kernel_rfl) rfl #[.agg #[.pointer (some ⟨g, 0, none⟩)], .int .i64 64] (by rfl) rfl rfl (by simp only [List.map_toArray, List.map_cons, List.map_nil]; rfl) ?_
            with_reducible refine (dget_ok w0 _ _ g b p 64 64 rfl hb HBY.out hp hg1 HD.out).mono ?_
            rintro e w1 ⟨rfl, hs1⟩
            refine ⟨_, rfl, ?_⟩
            rw [HT.out]
            rw [HPA.out] at hs1
            have HA1 := Aside0.mk (show Sat w0 w1 (Rd g b pa :: Row k33 33 v5 [] :: Blk g6 #[.int .i64 (wl vw), .int .i64 (wt vw)] 47 :: Blk g7 #[.int .i64 (wl sw), .int .i64 (wt sw)] 47 :: Blk gd #[.pointer (some ⟨g, 0, none⟩)] 70 :: L) from hs1)
            clear hs1
            have p1 := (HA1.out.nth 4 rfl).cell 0 (v := .pointer (some ⟨g, 0, none⟩)) rfl
            refine hK.out _ _ (p1) (fun hHeld => ?_)
            clear hK K
            refine norm_ (a' := ?_) ?_ ?_
            rotate_left
            · show Act.put _ (some 24) _ = _
              simp only [Act.put, List.setIfInBounds_toArray, List.set_cons_zero, List.set_cons_succ, i64_w, i32_w]
              rfl
            refine take_ (i := 3) (N := some 25) (v := ?_) (a' := ?_) #[true, true, true, true, true, false, true, false, false, false, false, false] rfl rfl (take_ofW HT_.out HW_.out (by kernel_rfl)) (fun _ _ _ h => h) (Or.inl ⟨by rfl, ?_⟩) hHeld ?_ ?_
            rotate_left
            · intro w' s0
              go_simp
              with_reducible rfl
            rotate_left
            · simp only [Act.put, List.setIfInBounds_toArray, List.set_cons_zero, List.set_cons_succ, i64_w, i32_w]
              rfl
            refine one_ (i := 5) (N := some 27) #[true, true, true, true, true, true, true, false, false, false, false, false] rfl rfl (one_of HT_.out (by kernel_rfl)) (by decide) (fun K hK => ?_)
            refine goesP_ Tryd.func53 (by kernel_rfl) rfl #[.agg #[.pointer (some ⟨g, 0, none⟩)], .int .i64 64] (by rfl) rfl (by simp only [List.map_toArray, List.map_cons, List.map_nil]; rfl) [wrongE] ?_
            with_reducible refine (dget_bad w0 _ _ g b pa 64 64 rfl hb hpa hg2 HA1.out).mono ?_
            rintro e w2 ⟨rfl, hs2⟩
            refine ⟨rfl, ?_⟩
            have HBAD := Aside0.mk (show Sat w0 w2 (Rd g b pa :: Row k33 33 v5 [] :: Blk g6 #[.int .i64 (wl vw), .int .i64 (wt vw)] 47 :: Blk g7 #[.int .i64 (wl sw), .int .i64 (wt sw)] 47 :: Blk gd #[.pointer (some ⟨g, 0, none⟩)] 70 :: L) from hs2)
            clear hs2
            exact ⟨rfl, PtsOut.bad HO.out rfl (drop4 HBAD.out)⟩
          obtain ⟨v, hv⟩ : ∃ v, getN b pa 64 = v := ⟨_, rfl⟩
          have hv2 : v < 18446744073709551616 := by rw [← hv]; exact getN_lt b pa 64 (by omega)
          obtain ⟨pb, hpbe⟩ : ∃ pb, pa + 64 = pb := ⟨_, rfl⟩
          have hpb : pb ≤ 8 * b.length := by omega
          have HV := Aside0.mk hv
          have HPB := Aside0.mk hpbe
          have HG4 := Aside0.mk (show pointsP b n = (gb b pb 64).bind fun s => goP b m [⟨wrap64 (t : Int), (v : Int), (s.1 : Int)⟩] (d, vw, sw) s.2 from by rw [HG3.out, gb_ok hg2, hv, hpbe]; rfl)
          clear hv HG3 hpbe
          by_cases hg3 : 64 ≤ 8 * b.length - pb
          rotate_left
          · have HO := Aside0.mk (show pointsP b n = none from by rw [HG4.out, gb_bad hg3]; rfl)
            refine start_ (n := 12) (S := fun w' => w'.cell? ⟨gd, 0, none⟩ = some (.pointer (some ⟨g, 0, none⟩))) (ds := []) #[false, false, false, false, false, false, false, false, false, false, false, false] (by kernel_rfl) rfl rfl (q0) (fun hHeld => ?_)
            refine with_tabW Dp.tab7 Dp.bits7 (fun HT_ HW_ => ?_)
            refine pure_ (i := 0) (N := some 22) (v := ?_) (a' := ?_) #[true, false, false, false, false, false, false, false, false, false, false, false] rfl rfl (any_of HT_.out (by kernel_rfl)) (fun _ _ _ h => h) (Or.inl ⟨by rfl, ?_⟩) ?_ ?_
            rotate_left
            · intro w'
              go_simp
              with_reducible rfl
            rotate_left
            · simp only [Act.put, List.setIfInBounds_toArray, List.set_cons_zero, List.set_cons_succ, i64_w, i32_w]
              rfl
            refine take_ (i := 1) (N := some 23) (v := ?_) (a' := ?_) #[true, true, false, false, false, false, false, false, false, false, false, false] rfl rfl (take_ofW HT_.out HW_.out (by kernel_rfl)) (fun _ _ _ h => h) (Or.inl ⟨by rfl, ?_⟩) hHeld ?_ ?_
            rotate_left
            · intro w' s0
              go_simp
              with_reducible rfl
            rotate_left
            · simp only [Act.put, List.setIfInBounds_toArray, List.set_cons_zero, List.set_cons_succ, i64_w, i32_w]
              rfl
            refine take_ (i := 4) (N := some 26) (v := ?_) (a' := ?_) #[true, true, false, false, true, false, false, false, false, false, false, false] rfl rfl (take_ofW HT_.out HW_.out (by kernel_rfl)) (fun _ _ _ h => h) (Or.inl ⟨by rfl, ?_⟩) hHeld ?_ ?_
            rotate_left
            · intro w' s0
              go_simp
              with_reducible rfl
            rotate_left
            · simp only [Act.put, List.setIfInBounds_toArray, List.set_cons_zero, List.set_cons_succ, i64_w, i32_w]
              rfl
            refine take_ (i := 6) (N := some 28) (v := ?_) (a' := ?_) #[true, true, false, false, true, false, true, false, false, false, false, false] rfl rfl (take_ofW HT_.out HW_.out (by kernel_rfl)) (fun _ _ _ h => h) (Or.inl ⟨by rfl, ?_⟩) hHeld ?_ ?_
            rotate_left
            · intro w' s0
              go_simp
              with_reducible rfl
            rotate_left
            · simp only [Act.put, List.setIfInBounds_toArray, List.set_cons_zero, List.set_cons_succ, i64_w, i32_w]
              rfl
            refine one_ (i := 2) (N := some 24) #[true, true, true, false, true, false, true, false, false, false, false, false] rfl rfl (one_of HT_.out (by kernel_rfl)) (by decide) (fun K hK => ?_)
            refine goes_ Tryd.func53 (by kernel_rfl) rfl #[.agg #[.pointer (some ⟨g, 0, none⟩)], .int .i64 64] (by rfl) rfl rfl (by simp only [List.map_toArray, List.map_cons, List.map_nil]; rfl) ?_
            with_reducible refine (dget_ok w0 _ _ g b p 64 64 rfl hb HBY.out hp hg1 HD.out).mono ?_
            rintro e w1 ⟨rfl, hs1⟩
            refine ⟨_, rfl, ?_⟩
            rw [HT.out]
            rw [HPA.out] at hs1
            have HA1 := Aside0.mk (show Sat w0 w1 (Rd g b pa :: Row k33 33 v5 [] :: Blk g6 #[.int .i64 (wl vw), .int .i64 (wt vw)] 47 :: Blk g7 #[.int .i64 (wl sw), .int .i64 (wt sw)] 47 :: Blk gd #[.pointer (some ⟨g, 0, none⟩)] 70 :: L) from hs1)
            clear hs1
            have p1 := (HA1.out.nth 4 rfl).cell 0 (v := .pointer (some ⟨g, 0, none⟩)) rfl
            refine hK.out _ _ (p1) (fun hHeld => ?_)
            clear hK K
            refine norm_ (a' := ?_) ?_ ?_
            rotate_left
            · show Act.put _ (some 24) _ = _
              simp only [Act.put, List.setIfInBounds_toArray, List.set_cons_zero, List.set_cons_succ, i64_w, i32_w]
              rfl
            refine take_ (i := 3) (N := some 25) (v := ?_) (a' := ?_) #[true, true, true, true, true, false, true, false, false, false, false, false] rfl rfl (take_ofW HT_.out HW_.out (by kernel_rfl)) (fun _ _ _ h => h) (Or.inl ⟨by rfl, ?_⟩) hHeld ?_ ?_
            rotate_left
            · intro w' s0
              go_simp
              with_reducible rfl
            rotate_left
            · simp only [Act.put, List.setIfInBounds_toArray, List.set_cons_zero, List.set_cons_succ, i64_w, i32_w]
              rfl
            refine one_ (i := 5) (N := some 27) #[true, true, true, true, true, true, true, false, false, false, false, false] rfl rfl (one_of HT_.out (by kernel_rfl)) (by decide) (fun K hK => ?_)
            refine goes_ Tryd.func53 (by kernel_rfl) rfl #[.agg #[.pointer (some ⟨g, 0, none⟩)], .int .i64 64] (by rfl) rfl rfl (by simp only [List.map_toArray, List.map_cons, List.map_nil]; rfl) ?_
            with_reducible refine (dget_ok w0 _ _ g b pa 64 64 rfl hb HBY.out hpa hg2 HA1.out).mono ?_
            rintro e w2 ⟨rfl, hs2⟩
            refine ⟨_, rfl, ?_⟩
            rw [HV.out]
            rw [HPB.out] at hs2
            have HA2 := Aside0.mk (show Sat w0 w2 (Rd g b pb :: Row k33 33 v5 [] :: Blk g6 #[.int .i64 (wl vw), .int .i64 (wt vw)] 47 :: Blk g7 #[.int .i64 (wl sw), .int .i64 (wt sw)] 47 :: Blk gd #[.pointer (some ⟨g, 0, none⟩)] 70 :: L) from hs2)
            clear hs2
            have p2 := (HA2.out.nth 4 rfl).cell 0 (v := .pointer (some ⟨g, 0, none⟩)) rfl
            refine hK.out _ _ (p2) (fun hHeld => ?_)
            clear hK K
            refine norm_ (a' := ?_) ?_ ?_
            rotate_left
            · show Act.put _ (some 27) _ = _
              simp only [Act.put, List.setIfInBounds_toArray, List.set_cons_zero, List.set_cons_succ, i64_w, i32_w]
              rfl
            refine one_ (i := 7) (N := some 29) #[true, true, true, true, true, true, true, true, false, false, false, false] rfl rfl (one_of HT_.out (by kernel_rfl)) (by decide) (fun K hK => ?_)
            refine goesP_ Tryd.func53 (by kernel_rfl) rfl #[.agg #[.pointer (some ⟨g, 0, none⟩)], .int .i64 64] (by rfl) rfl (by simp only [List.map_toArray, List.map_cons, List.map_nil]; rfl) [wrongE] ?_
            with_reducible refine (dget_bad w0 _ _ g b pb 64 64 rfl hb hpb hg3 HA2.out).mono ?_
            rintro e w3 ⟨rfl, hs3⟩
            refine ⟨rfl, ?_⟩
            have HBAD := Aside0.mk (show Sat w0 w3 (Rd g b pb :: Row k33 33 v5 [] :: Blk g6 #[.int .i64 (wl vw), .int .i64 (wt vw)] 47 :: Blk g7 #[.int .i64 (wl sw), .int .i64 (wt sw)] 47 :: Blk gd #[.pointer (some ⟨g, 0, none⟩)] 70 :: L) from hs3)
            clear hs3
            exact ⟨rfl, PtsOut.bad HO.out rfl (drop4 HBAD.out)⟩
          obtain ⟨s, hs⟩ : ∃ s, getN b pb 64 = s := ⟨_, rfl⟩
          have hs2 : s < 18446744073709551616 := by rw [← hs]; exact getN_lt b pb 64 (by omega)
          obtain ⟨pc, hpce⟩ : ∃ pc, pb + 64 = pc := ⟨_, rfl⟩
          have hpc : pc ≤ 8 * b.length := by omega
          have HS := Aside0.mk hs
          obtain ⟨T, hT⟩ : ∃ T, wrap64 (t : Int) = T := ⟨_, rfl⟩
          have hTr := wrap64_range (t : Int)
          rw [hT] at hTr
          have eT : IntKind.i64.wrap (t : Int) = T := by rw [IntKind.wrap_i64, ← hT]; unfold wrap64; omega
          have HG5 := Aside0.mk (show pointsP b n = goP b m [⟨T, (v : Int), (s : Int)⟩] (d, vw, sw) pc from by rw [HG4.out, gb_ok hg3, hs, hpce, hT]; rfl)
          have HPC := Aside0.mk hpce
          clear hs HG4 hT hpce
          refine start_ (n := 12) (S := fun w' => w'.cell? ⟨gd, 0, none⟩ = some (.pointer (some ⟨g, 0, none⟩))) (ds := []) #[false, false, false, false, false, false, false, false, false, false, false, false] (by kernel_rfl) rfl rfl (q0) (fun hHeld => ?_)
          refine with_tabW Dp.tab7 Dp.bits7 (fun HT_ HW_ => ?_)
          refine pure_ (i := 0) (N := some 22) (v := ?_) (a' := ?_) #[true, false, false, false, false, false, false, false, false, false, false, false] rfl rfl (any_of HT_.out (by kernel_rfl)) (fun _ _ _ h => h) (Or.inl ⟨by rfl, ?_⟩) ?_ ?_
          rotate_left
          · intro w'
            go_simp
            with_reducible rfl
          rotate_left
          · simp only [Act.put, List.setIfInBounds_toArray, List.set_cons_zero, List.set_cons_succ, i64_w, i32_w]
            rfl
          refine take_ (i := 1) (N := some 23) (v := ?_) (a' := ?_) #[true, true, false, false, false, false, false, false, false, false, false, false] rfl rfl (take_ofW HT_.out HW_.out (by kernel_rfl)) (fun _ _ _ h => h) (Or.inl ⟨by rfl, ?_⟩) hHeld ?_ ?_
          rotate_left
          · intro w' s0
            go_simp
            with_reducible rfl
          rotate_left
          · simp only [Act.put, List.setIfInBounds_toArray, List.set_cons_zero, List.set_cons_succ, i64_w, i32_w]
            rfl
          refine take_ (i := 4) (N := some 26) (v := ?_) (a' := ?_) #[true, true, false, false, true, false, false, false, false, false, false, false] rfl rfl (take_ofW HT_.out HW_.out (by kernel_rfl)) (fun _ _ _ h => h) (Or.inl ⟨by rfl, ?_⟩) hHeld ?_ ?_
          rotate_left
          · intro w' s0
            go_simp
            with_reducible rfl
          rotate_left
          · simp only [Act.put, List.setIfInBounds_toArray, List.set_cons_zero, List.set_cons_succ, i64_w, i32_w]
            rfl
          refine take_ (i := 6) (N := some 28) (v := ?_) (a' := ?_) #[true, true, false, false, true, false, true, false, false, false, false, false] rfl rfl (take_ofW HT_.out HW_.out (by kernel_rfl)) (fun _ _ _ h => h) (Or.inl ⟨by rfl, ?_⟩) hHeld ?_ ?_
          rotate_left
          · intro w' s0
            go_simp
            with_reducible rfl
          rotate_left
          · simp only [Act.put, List.setIfInBounds_toArray, List.set_cons_zero, List.set_cons_succ, i64_w, i32_w]
            rfl
          refine one_ (i := 2) (N := some 24) #[true, true, true, false, true, false, true, false, false, false, false, false] rfl rfl (one_of HT_.out (by kernel_rfl)) (by decide) (fun K hK => ?_)
          refine goes_ Tryd.func53 (by kernel_rfl) rfl #[.agg #[.pointer (some ⟨g, 0, none⟩)], .int .i64 64] (by rfl) rfl rfl (by simp only [List.map_toArray, List.map_cons, List.map_nil]; rfl) ?_
          with_reducible refine (dget_ok w0 _ _ g b p 64 64 rfl hb HBY.out hp hg1 HD.out).mono ?_
          rintro e w1 ⟨rfl, hs1⟩
          refine ⟨_, rfl, ?_⟩
          rw [HT.out]
          rw [HPA.out] at hs1
          have HA1 := Aside0.mk (show Sat w0 w1 (Rd g b pa :: Row k33 33 v5 [] :: Blk g6 #[.int .i64 (wl vw), .int .i64 (wt vw)] 47 :: Blk g7 #[.int .i64 (wl sw), .int .i64 (wt sw)] 47 :: Blk gd #[.pointer (some ⟨g, 0, none⟩)] 70 :: L) from hs1)
          clear hs1
          have p1 := (HA1.out.nth 4 rfl).cell 0 (v := .pointer (some ⟨g, 0, none⟩)) rfl
          refine hK.out _ _ (p1) (fun hHeld => ?_)
          clear hK K
          refine norm_ (a' := ?_) ?_ ?_
          rotate_left
          · show Act.put _ (some 24) _ = _
            simp only [Act.put, List.setIfInBounds_toArray, List.set_cons_zero, List.set_cons_succ, i64_w, i32_w]
            rfl
          refine take_ (i := 3) (N := some 25) (v := ?_) (a' := ?_) #[true, true, true, true, true, false, true, false, false, false, false, false] rfl rfl (take_ofW HT_.out HW_.out (by kernel_rfl)) (fun _ _ _ h => h) (Or.inl ⟨by rfl, ?_⟩) hHeld ?_ ?_
          rotate_left
          · intro w' s0
            go_simp
            with_reducible rfl
          rotate_left
          · simp only [Act.put, List.setIfInBounds_toArray, List.set_cons_zero, List.set_cons_succ, i64_w, i32_w]
            rfl
          refine one_ (i := 5) (N := some 27) #[true, true, true, true, true, true, true, false, false, false, false, false] rfl rfl (one_of HT_.out (by kernel_rfl)) (by decide) (fun K hK => ?_)
          refine goes_ Tryd.func53 (by kernel_rfl) rfl #[.agg #[.pointer (some ⟨g, 0, none⟩)], .int .i64 64] (by rfl) rfl rfl (by simp only [List.map_toArray, List.map_cons, List.map_nil]; rfl) ?_
          with_reducible refine (dget_ok w0 _ _ g b pa 64 64 rfl hb HBY.out hpa hg2 HA1.out).mono ?_
          rintro e w2 ⟨rfl, hs2⟩
          refine ⟨_, rfl, ?_⟩
          rw [HV.out]
          rw [HPB.out] at hs2
          have HA2 := Aside0.mk (show Sat w0 w2 (Rd g b pb :: Row k33 33 v5 [] :: Blk g6 #[.int .i64 (wl vw), .int .i64 (wt vw)] 47 :: Blk g7 #[.int .i64 (wl sw), .int .i64 (wt sw)] 47 :: Blk gd #[.pointer (some ⟨g, 0, none⟩)] 70 :: L) from hs2)
          clear hs2
          have p2 := (HA2.out.nth 4 rfl).cell 0 (v := .pointer (some ⟨g, 0, none⟩)) rfl
          refine hK.out _ _ (p2) (fun hHeld => ?_)
          clear hK K
          refine norm_ (a' := ?_) ?_ ?_
          rotate_left
          · show Act.put _ (some 27) _ = _
            simp only [Act.put, List.setIfInBounds_toArray, List.set_cons_zero, List.set_cons_succ, i64_w, i32_w]
            rfl
          refine one_ (i := 7) (N := some 29) #[true, true, true, true, true, true, true, true, false, false, false, false] rfl rfl (one_of HT_.out (by kernel_rfl)) (by decide) (fun K hK => ?_)
          refine goes_ Tryd.func53 (by kernel_rfl) rfl #[.agg #[.pointer (some ⟨g, 0, none⟩)], .int .i64 64] (by rfl) rfl rfl (by simp only [List.map_toArray, List.map_cons, List.map_nil]; rfl) ?_
          with_reducible refine (dget_ok w0 _ _ g b pb 64 64 rfl hb HBY.out hpb hg3 HA2.out).mono ?_
          rintro e w3 ⟨rfl, hs3⟩
          refine ⟨_, rfl, ?_⟩
          rw [HS.out]
          rw [HPC.out] at hs3
          have HA3 := Aside0.mk (show Sat w0 w3 (Rd g b pc :: Row k33 33 v5 [] :: Blk g6 #[.int .i64 (wl vw), .int .i64 (wt vw)] 47 :: Blk g7 #[.int .i64 (wl sw), .int .i64 (wt sw)] 47 :: Blk gd #[.pointer (some ⟨g, 0, none⟩)] 70 :: L) from hs3)
          clear hs3
          have p3 := (HA3.out.nth 4 rfl).cell 0 (v := .pointer (some ⟨g, 0, none⟩)) rfl
          refine hK.out _ _ (p3) (fun hHeld => ?_)
          clear hK K
          refine norm_ (a' := ?_) ?_ ?_
          rotate_left
          · show Act.put _ (some 29) _ = _
            simp only [Act.put, List.setIfInBounds_toArray, List.set_cons_zero, List.set_cons_succ, i64_w, i32_w]
            rfl
          refine pure_ (i := 8) (N := some 30) (v := ?_) (a' := ?_) #[true, true, true, true, true, true, true, true, true, false, false, false] rfl rfl (any_of HT_.out (by kernel_rfl)) (fun _ _ _ h => h) (Or.inl ⟨by rfl, ?_⟩) ?_ ?_
          rotate_left
          · intro w'
            go_simp
            with_reducible rfl
          rotate_left
          · simp only [Act.put, List.setIfInBounds_toArray, List.set_cons_zero, List.set_cons_succ, i64_w, i32_w]
            rfl
          refine one_ (i := 9) (N := some 31) #[true, true, true, true, true, true, true, true, true, true, false, false] rfl rfl (one_of HT_.out (by kernel_rfl)) (by decide) (fun K hK => ?_)
          refine value_ (w1 := ?_) (v := ?_) (by rfl) rfl ?_ ?_
          rotate_left 2
          · go_simp
            constructor
            · rfl
            · rfl
          have HA4 := Aside0.mk (HA3.out.alloc (.cells #[.int .i64 (T), .int .u64 v, .int .u64 s] 33))
          refine hK.out _ _ ((show _ from (HA4.out.nth 4 rfl).cell 0 (v := .pointer (some ⟨g, 0, none⟩)) rfl)) (fun hHeld => ?_)
          clear hK K
          refine norm_ (a' := ?_) ?_ ?_
          rotate_left
          · show Act.put _ (some 31) _ = _
            simp only [Act.put, List.setIfInBounds_toArray, List.set_cons_zero, List.set_cons_succ, i64_w, i32_w]
            rfl
          refine one_ (i := 10) (N := some 32) #[true, true, true, true, true, true, true, true, true, true, true, false] rfl rfl (one_of HT_.out (by kernel_rfl)) (by decide) (fun K hK => ?_)
          refine Sat.appendStep k33 (by rfl) (.tmp 22) (.tmp 31) 22 33 (.agg #[.int .i64 0, .int .u64 0, .int .u64 0]) 24 rfl Tryd.underlying22 info33 rfl (by decide) (by omega) v5 [] ⟨T, (v : Int), (s : Int)⟩ [.int .i64 (T), .int .u64 v, .int .u64 s] rfl rfl (k33_mkM _ _ _ ⟨T, (v : Int), (s : Int)⟩) (HA3.out.nth 1 rfl) (by simp) ?_
          intro v6 w5 hs5 hsz5
          clear hsz5
          have HA5 := Aside0.mk (show Sat w0 w5 (Rd g b pc :: Row k33 33 v6 [⟨T, (v : Int), (s : Int)⟩] :: Blk g6 #[.int .i64 (wl vw), .int .i64 (wt vw)] 47 :: Blk g7 #[.int .i64 (wl sw), .int .i64 (wt sw)] 47 :: Blk gd #[.pointer (some ⟨g, 0, none⟩)] 70 :: L) from hs5.nth 1 rfl)
          clear hs5
          have p5 := (HA5.out.nth 4 rfl).cell 0 (v := .pointer (some ⟨g, 0, none⟩)) rfl
          refine hK.out _ _ (p5) (fun hHeld => ?_)
          clear hK K
          refine norm_ (a' := ?_) ?_ ?_
          rotate_left
          · show Act.put _ (some 32) _ = _
            simp only [Act.put, List.setIfInBounds_toArray, List.set_cons_zero, List.set_cons_succ, i64_w, i32_w]
            rfl
          refine pure_ (i := 11) (N := some 5) (v := ?_) (a' := ?_) #[true, true, true, true, true, true, true, true, true, true, true, true] rfl rfl (any_of HT_.out (by kernel_rfl)) (fun _ _ _ h => h) (Or.inl ⟨by rfl, ?_⟩) ?_ ?_
          rotate_left
          · intro w'
            go_simp
            with_reducible rfl
          rotate_left
          · simp only [Act.put, List.setIfInBounds_toArray, List.set_cons_zero, List.set_cons_succ, i64_w, i32_w]
            rfl
          refine done_ (done_of HT_.out (by kernel_rfl)) ?_
          go_wp2
          go_roundw
          case measure => simp [intOf]; omega
          case rel => exact ⟨1, _, [⟨T, (v : Int), (s : Int)⟩], d, vw, sw, v6, rfl, by omega, ⟨rfl⟩, rfl, rfl, hpc, hd, ⟨by rw [HG5.out, show n - 1 = m from by omega]⟩, HVO, HSO, ⟨okL_snoc okL_nil ⟨hTr, ⟨by simp only; omega, by simp only; omega⟩, ⟨by simp only; omega, by simp only; omega⟩⟩⟩, HA5⟩
        · obtain ⟨j, rfl⟩ : ∃ j, i = j + 1 := ⟨i - 1, by omega⟩
          have HG2 := Aside0.mk (show pointsP b n = (nextP b p (l.getD j zp) d vw sw).bind fun r => goP b m (l ++ [r.1.1]) r.1.2 r.2 from by rw [HG.out, hm, goP_more (by omega), show l.length - 1 = j from by omega])
          obtain ⟨A5, cap, hve, _, hC5⟩ := (HR.out.nth 1 rfl).rowSlice
          subst hve
          obtain ⟨ad, rfl, c0, c1, c2⟩ := at_T33 hC5 (j : Int) (by omega) (by omega)
          rw [rdT] at c0 c1 c2
          have hqok := getD_ok HOK.out j
          obtain ⟨⟨T, V, S⟩, hq⟩ : ∃ q, l.getD j zp = q := ⟨_, rfl⟩
          rw [hq] at c0 c1 c2 hqok
          obtain ⟨hT, hV, hS⟩ := hqok
          simp only [Int.toNat_natCast] at c0 c1 c2 hT hV hS
          obtain ⟨vn, rfl⟩ : ∃ vn : Nat, V = (vn : Int) := ⟨V.toNat, by omega⟩
          obtain ⟨sn, rfl⟩ : ∃ sn : Nat, S = (sn : Int) := ⟨S.toNat, by omega⟩
          have hvn : vn < 18446744073709551616 := by omega
          have hsn : sn < 18446744073709551616 := by omega
          have HG3 := Aside0.mk (show pointsP b n = (nextP b p ⟨T, (vn : Int), (sn : Int)⟩ d vw sw).bind fun r => goP b m (l ++ [r.1.1]) r.1.2 r.2 from by rw [HG2.out, hq])
          have hj0 : (0 : Int) ≤ (j : Int) := by omega
          have hj1 : (j : Int) < (l.length : Int) := by omega
          have hj2 : j < l.length := by omega
          have HNB := Aside0.mk (HR.out.newBlk #[.int .i64 T, .int .u64 vn, .int .u64 sn] 33)
          clear HG HG2 hq hC5 hli
          go_upto_region 9 with (fail)
          generalize wr.alloc (.cells #[.int .i64 T, .int .u64 vn, .int .u64 sn] 33) = w4 at HNB ⊢
          generalize wr.heap.size = g10 at HNB ⊢
          clear c0 c1 c2 hj0 hj1 hj2 HR
          have H4 := Aside0.mk (show Sat w0 w4 (Rd g b p :: Blk g10 #[.int .i64 T, .int .u64 vn, .int .u64 sn] 33 :: Row k33 33 (.slice (some ad) l.length cap) l :: Blk g6 #[.int .i64 (wl vw), .int .i64 (wt vw)] 47 :: Blk g7 #[.int .i64 (wl sw), .int .i64 (wt sw)] 47 :: Blk gd #[.pointer (some ⟨g, 0, none⟩)] 70 :: L) from HNB.out.nth 1 rfl)
          clear HNB
          have k0 := (H4.out.nth 5 rfl).cell 0 (v := .pointer (some ⟨g, 0, none⟩)) rfl
          cases ht : timeP b p with
          | none =>
            have HO := Aside0.mk (show pointsP b n = none from by rw [HG3.out, next_bind, ht]; rfl)
            have HTN := Aside0.mk ht
            clear ht
            go_wp2_with (first | (go_at_call 54; go_loud ((with_reducible refine (dtime_none w0 w4 _ g b p hb HBY.out hp HTN.out H4.out).mono ?_); rintro e w5 ⟨rfl, qq, hs⟩; have H5 := Aside0.mk hs; clear hs)))
            exact ⟨rfl, PtsOut.bad HO.out rfl (drop4 ((show Sat w0 w5 (Rd g b qq :: Blk g10 _ 33 :: Row k33 33 _ l :: _) from H5.out).nth 1 rfl).tail)⟩
          | some tx =>
            obtain ⟨x, p1⟩ := tx
            obtain ⟨hx, hp1⟩ := timeP_some hp ht
            have HTS := Aside0.mk ht
            have HG4 := Aside0.mk (show pointsP b n = (valueP b p1 vw).bind fun y => (valueP b y.2 sw).bind fun z => goP b m (l ++ [⟨wrap64 (T + wrap64 (d + x)), ((vn ^^^ y.1.1 : Nat) : Int), ((sn ^^^ z.1.1 : Nat) : Int)⟩]) (wrap64 (d + x), y.1.2, z.1.2) z.2 from by rw [HG3.out, next_bind, ht]; rfl)
            clear ht HG3
            go_upto_region 10 with (first | (go_at_call 54; go_loud ((with_reducible refine (dtime_some w0 w4 _ g b p p1 x hb HBY.out hp HTS.out H4.out).mono ?_); rintro e w5 ⟨rfl, hs⟩; have H5 := Aside0.mk (show Sat w0 w5 (Rd g b p1 :: Blk g10 #[.int .i64 T, .int .u64 vn, .int .u64 sn] 33 :: Row k33 33 (.slice (some ad) l.length cap) l :: Blk g6 #[.int .i64 (wl vw), .int .i64 (wt vw)] 47 :: Blk g7 #[.int .i64 (wl sw), .int .i64 (wt sw)] 47 :: Blk gd #[.pointer (some ⟨g, 0, none⟩)] 70 :: L) from hs); clear hs)))
            obtain ⟨dd, hdd⟩ : ∃ dd, wrap64 (d + x) = dd := ⟨_, rfl⟩
            have hdr := wrap64_range (d + x)
            rw [hdd] at HG4 hdr ⊢
            obtain ⟨tt, htt⟩ : ∃ tt, wrap64 (T + dd) = tt := ⟨_, rfl⟩
            have htr := wrap64_range (T + dd)
            rw [htt] at HG4 htr
            have HTT := Aside0.mk htt
            clear hdd htt k0 H4 HTS hx
            have k1 := (H5.out.nth 1 rfl).cell 0 (v := .int .i64 T) rfl
            have k2 := (H5.out.nth 1 rfl).free 0
            go_upto_region 11 with (fail)
            rw [HTT.out]
            have H6 : Aside0 (Sat w0 (w5.setCell ⟨g10, 0, none⟩ (.int .i64 tt)) (Rd g b p1 :: Blk g10 #[.int .i64 tt, .int .u64 vn, .int .u64 sn] 33 :: Row k33 33 (.slice (some ad) l.length cap) l :: Blk g6 #[.int .i64 (wl vw), .int .i64 (wt vw)] 47 :: Blk g7 #[.int .i64 (wl sw), .int .i64 (wt sw)] 47 :: Blk gd #[.pointer (some ⟨g, 0, none⟩)] 70 :: L)) := ⟨((H5.out.nth 1 rfl).setBlk 0 (.int .i64 tt)).nth 1 rfl⟩
            generalize w5.setCell ⟨g10, 0, none⟩ (.int .i64 tt) = w6 at H6 ⊢
            clear k1 k2 H5 HTT
            have k0 := (H6.out.nth 5 rfl).cell 0 (v := .pointer (some ⟨g, 0, none⟩)) rfl
            have k4 := (H6.out.nth 3 rfl).cell 0 (v := .int .i64 (wl vw)) rfl
            have k5 := (H6.out.nth 3 rfl).cell 1 (v := .int .i64 (wt vw)) rfl
            cases hy : valueP b p1 vw with
            | none =>
              have HO := Aside0.mk (show pointsP b n = none from by rw [HG4.out, hy]; rfl)
              have HVN := Aside0.mk hy
              clear hy
              go_wp2_with (first | (go_at_call 55; go_loud ((with_reducible refine (dvalue_none w0 w6 _ g b p1 vw HVO.out hb HBY.out hp1 HVN.out H6.out).mono ?_); rintro e w7 ⟨rfl, qq, hs⟩; have HBAD := Aside0.mk hs; clear hs)))
              exact ⟨rfl, PtsOut.bad HO.out rfl (drop4 ((show Sat w0 w7 (Rd g b qq :: Blk g10 _ 33 :: Row k33 33 _ l :: _) from HBAD.out).nth 1 rfl).tail)⟩
            | some ty =>
            obtain ⟨⟨y, vw2⟩, p2⟩ := ty
            obtain ⟨hy2, hvo2, hp2⟩ := valueP_some HVO.out hp1 hy
            have HVS := Aside0.mk hy
            have HVO2 := Aside0.mk hvo2
            have HG5 := Aside0.mk (show pointsP b n = (valueP b p2 sw).bind fun z => goP b m (l ++ [⟨tt, ((vn ^^^ y : Nat) : Int), ((sn ^^^ z.1.1 : Nat) : Int)⟩]) (dd, vw2, z.1.2) z.2 from by rw [HG4.out, hy]; rfl)
            have hxv : bits .xor .u64 (vn : Int) (y : Int) = ((vn ^^^ y : Nat) : Int) := bits_xor_u64_nat vn y hvn hy2
            have hxl : vn ^^^ y < 18446744073709551616 := Nat.xor_lt_two_pow (n := 64) hvn hy2
            clear hy HG4 hvo2
            go_upto_region 13 with (first | (go_at_call 55; go_loud ((with_reducible refine (dvalue_some w0 w6 _ g b p1 p2 y vw vw2 HVO.out hb HBY.out hp1 HVS.out H6.out).mono ?_); rintro e w7 ⟨rfl, hs⟩; have H7 := Aside0.mk (show Sat w0 w7 (Rd g b p2 :: Blk g10 #[.int .i64 tt, .int .u64 vn, .int .u64 sn] 33 :: Row k33 33 (.slice (some ad) l.length cap) l :: Blk g6 #[.int .i64 (wl vw), .int .i64 (wt vw)] 47 :: Blk g7 #[.int .i64 (wl sw), .int .i64 (wt sw)] 47 :: Blk gd #[.pointer (some ⟨g, 0, none⟩)] 70 :: L) from hs); clear hs)) | ((with_reducible refine gate_store (p := 6) rfl ?_); go_loud (refine wpList_store_row rfl 47 (.tmp 6) (.tmp 52) rfl g6 #[.int .i64 (wl vw2), .int .i64 (wt vw2)] rfl rfl 47 _ (H7.out.nth 3 rfl).blk (by kernel_rfl) rfl (by simp [Value.oneCell']) ?_; have HY := Aside0.mk (Sat.setRow (H7.out.nth 3 rfl) #[.int .i64 (wl vw2), .int .i64 (wt vw2)]))))
            generalize w7.setRow g6 #[.int .i64 (wl vw2), .int .i64 (wt vw2)] = w8 at HY ⊢
            have H8 := Aside0.mk (show Sat w0 w8 (Rd g b p2 :: Blk g10 #[.int .i64 tt, .int .u64 vn, .int .u64 sn] 33 :: Row k33 33 (.slice (some ad) l.length cap) l :: Blk g6 #[.int .i64 (wl vw2), .int .i64 (wt vw2)] 47 :: Blk g7 #[.int .i64 (wl sw), .int .i64 (wt sw)] 47 :: Blk gd #[.pointer (some ⟨g, 0, none⟩)] 70 :: L) from (((HY.out.nth 3 rfl).nth 3 rfl).nth 3 rfl))
            clear k0 k4 k5 H6 H7 HY HVS HVO
            have k1 := (H8.out.nth 1 rfl).cell 1 (v := .int .u64 vn) rfl
            have k2 := (H8.out.nth 1 rfl).free 1
            go_upto_region 14 with (fail)
            have H9 : Aside0 (Sat w0 (w8.setCell ⟨g10, 1, none⟩ (.int .u64 ((vn ^^^ y : Nat) : Int))) (Rd g b p2 :: Blk g10 #[.int .i64 tt, .int .u64 ((vn ^^^ y : Nat) : Int), .int .u64 sn] 33 :: Row k33 33 (.slice (some ad) l.length cap) l :: Blk g6 #[.int .i64 (wl vw2), .int .i64 (wt vw2)] 47 :: Blk g7 #[.int .i64 (wl sw), .int .i64 (wt sw)] 47 :: Blk gd #[.pointer (some ⟨g, 0, none⟩)] 70 :: L)) := ⟨((H8.out.nth 1 rfl).setBlk 1 (.int .u64 ((vn ^^^ y : Nat) : Int))).nth 1 rfl⟩
            generalize w8.setCell ⟨g10, 1, none⟩ (.int .u64 ((vn ^^^ y : Nat) : Int)) = w9 at H9 ⊢
            clear k1 k2 H8 hxv
            have k0 := (H9.out.nth 5 rfl).cell 0 (v := .pointer (some ⟨g, 0, none⟩)) rfl
            have k4 := (H9.out.nth 4 rfl).cell 0 (v := .int .i64 (wl sw)) rfl
            have k5 := (H9.out.nth 4 rfl).cell 1 (v := .int .i64 (wt sw)) rfl
            cases hz : valueP b p2 sw with
            | none =>
              have HO := Aside0.mk (show pointsP b n = none from by rw [HG5.out, hz]; rfl)
              have HVN := Aside0.mk hz
              clear hz
              go_wp2_with (first | (go_at_call 55; go_loud ((with_reducible refine (dvalue_none w0 w9 _ g b p2 sw HSO.out hb HBY.out hp2 HVN.out H9.out).mono ?_); rintro e w10 ⟨rfl, qq, hs⟩; have HBAD := Aside0.mk hs; clear hs)))
              exact ⟨rfl, PtsOut.bad HO.out rfl (drop4 ((show Sat w0 w10 (Rd g b qq :: Blk g10 _ 33 :: Row k33 33 _ l :: _) from HBAD.out).nth 1 rfl).tail)⟩
            | some tz =>
            obtain ⟨⟨z, sw2⟩, p3⟩ := tz
            obtain ⟨hz2, hso2, hp3⟩ := valueP_some HSO.out hp2 hz
            have HVS := Aside0.mk hz
            have HSO2 := Aside0.mk hso2
            have HG6 := Aside0.mk (show pointsP b n = goP b m (l ++ [⟨tt, ((vn ^^^ y : Nat) : Int), ((sn ^^^ z : Nat) : Int)⟩]) (dd, vw2, sw2) p3 from by rw [HG5.out, hz]; rfl)
            have hxv : bits .xor .u64 (sn : Int) (z : Int) = ((sn ^^^ z : Nat) : Int) := bits_xor_u64_nat sn z hsn hz2
            have hxl2 : sn ^^^ z < 18446744073709551616 := Nat.xor_lt_two_pow (n := 64) hsn hz2
            clear hz HG5 hso2
            go_upto_region 15 with (first | (go_at_call 55; go_loud ((with_reducible refine (dvalue_some w0 w9 _ g b p2 p3 z sw sw2 HSO.out hb HBY.out hp2 HVS.out H9.out).mono ?_); rintro e w10 ⟨rfl, hs⟩; have H10 := Aside0.mk (show Sat w0 w10 (Rd g b p3 :: Blk g10 #[.int .i64 tt, .int .u64 ((vn ^^^ y : Nat) : Int), .int .u64 sn] 33 :: Row k33 33 (.slice (some ad) l.length cap) l :: Blk g6 #[.int .i64 (wl vw2), .int .i64 (wt vw2)] 47 :: Blk g7 #[.int .i64 (wl sw), .int .i64 (wt sw)] 47 :: Blk gd #[.pointer (some ⟨g, 0, none⟩)] 70 :: L) from hs); clear hs)) | ((with_reducible refine gate_store (p := 7) rfl ?_); go_loud (refine wpList_store_row rfl 47 (.tmp 7) (.tmp 63) rfl g7 #[.int .i64 (wl sw2), .int .i64 (wt sw2)] rfl rfl 47 _ (H10.out.nth 4 rfl).blk (by kernel_rfl) rfl (by simp [Value.oneCell']) ?_; have HY := Aside0.mk (Sat.setRow (H10.out.nth 4 rfl) #[.int .i64 (wl sw2), .int .i64 (wt sw2)]))))
            generalize w10.setRow g7 #[.int .i64 (wl sw2), .int .i64 (wt sw2)] = w11 at HY ⊢
            have H11 := Aside0.mk (show Sat w0 w11 (Rd g b p3 :: Blk g10 #[.int .i64 tt, .int .u64 ((vn ^^^ y : Nat) : Int), .int .u64 sn] 33 :: Row k33 33 (.slice (some ad) l.length cap) l :: Blk g6 #[.int .i64 (wl vw2), .int .i64 (wt vw2)] 47 :: Blk g7 #[.int .i64 (wl sw2), .int .i64 (wt sw2)] 47 :: Blk gd #[.pointer (some ⟨g, 0, none⟩)] 70 :: L) from ((((HY.out.nth 4 rfl).nth 4 rfl).nth 4 rfl).nth 4 rfl))
            clear k0 k4 k5 H9 H10 HY HVS HSO
            have k1 := (H11.out.nth 1 rfl).cell 2 (v := .int .u64 sn) rfl
            have k2 := (H11.out.nth 1 rfl).free 2
            go_upto_region 16 with (fail)
            have H12 : Aside0 (Sat w0 (w11.setCell ⟨g10, 2, none⟩ (.int .u64 ((sn ^^^ z : Nat) : Int))) (Rd g b p3 :: Blk g10 #[.int .i64 tt, .int .u64 ((vn ^^^ y : Nat) : Int), .int .u64 ((sn ^^^ z : Nat) : Int)] 33 :: Row k33 33 (.slice (some ad) l.length cap) l :: Blk g6 #[.int .i64 (wl vw2), .int .i64 (wt vw2)] 47 :: Blk g7 #[.int .i64 (wl sw2), .int .i64 (wt sw2)] 47 :: Blk gd #[.pointer (some ⟨g, 0, none⟩)] 70 :: L)) := ⟨((H11.out.nth 1 rfl).setBlk 2 (.int .u64 ((sn ^^^ z : Nat) : Int))).nth 1 rfl⟩
            generalize w11.setCell ⟨g10, 2, none⟩ (.int .u64 ((sn ^^^ z : Nat) : Int)) = w12 at H12 ⊢
            clear k1 k2 H11 hxv
            obtain ⟨vx, hvx⟩ : ∃ vx, vn ^^^ y = vx := ⟨_, rfl⟩
            obtain ⟨sx, hsx⟩ : ∃ sx, sn ^^^ z = sx := ⟨_, rfl⟩
            rw [hvx] at H12 HG6 hxl
            rw [hsx] at H12 HG6 hxl2
            clear hvx hsx
            have k0 := (H12.out.nth 1 rfl).cell 0 (v := .int .i64 tt) rfl
            have k1 := (H12.out.nth 1 rfl).cell 1 (v := .int .u64 vx) rfl
            have k2 := (H12.out.nth 1 rfl).cell 2 (v := .int .u64 sx) rfl
            go_wp2_with (first | (at_builtin; go_loud (refine Sat.append k33 rfl _ _ 22 33 (.agg #[.int .i64 0, .int .u64 0, .int .u64 0]) 24 rfl Tryd.underlying22 info33 rfl (by decide) (by omega) (.slice (some ad) l.length cap) l ⟨tt, (vx : Int), (sx : Int)⟩ [.int .i64 tt, .int .u64 vx, .int .u64 sx] rfl rfl (k33_mkM _ _ _ ⟨tt, (vx : Int), (sx : Int)⟩) (H12.out.nth 2 rfl) (by have := HLI.out; omega) ?_; intro v6 w13 hs hsz; have H13 := Aside0.mk hs; clear hs hsz)))
            go_roundw
            case measure => simp [intOf]; omega
            case rel =>
              refine ⟨j + 2, p3, l ++ [⟨tt, (vx : Int), (sx : Int)⟩], dd, vw2, sw2, v6, rfl, by omega, ⟨by rw [List.length_append, HLI.out]; rfl⟩, by go_num, rfl, hp3, hdr, ⟨by rw [HG6.out, show n - (j + 2) = m from by omega]⟩, HVO2, HSO2, ⟨okL_snoc HOK.out ⟨htr, ⟨by simp only; omega, by simp only; omega⟩, ⟨by simp only; omega, by simp only; omega⟩⟩⟩, ⟨?_⟩⟩
              exact ((show Sat w0 w13 (Row k33 33 v6 _ :: Rd g b p3 :: Blk g10 _ 33 :: Blk g6 _ 47 :: Blk g7 _ 47 :: Blk gd _ 70 :: L) from H13.out).nth 2 rfl).tail.nth 1 rfl
      · have d1 : decide ((i : Int) < (n : Int)) = false := decide_eq_false (by omega)
        have d2 : decide (i < n) = false := decide_eq_false hlt
        obtain rfl : i = n := by omega
        have HO := Aside0.mk (show pointsP b i = some l from by rw [HG.out, Nat.sub_self]; rfl)
        go_wp2
        go_ret
        refine PtsOut.ok HO.out rfl HOK.out (q := p) ?_
        exact (((((show Sat w0 wr (Row k33 33 v5 l :: Rd g b p :: Blk g6 _ 47 :: Blk g7 _ 47 :: Blk gd _ 70 :: L) from HR.out.nth 1 rfl).nth 2 rfl).tail.nth 2 rfl).tail).nth 2 rfl).tail
end Go.Proofs.YtmnlbedgkjnodaaDoor.TdW
namespace Go.Proofs.YtmnlbedgkjnodaaDoor.QB
open Go.RowKit Go.Proofs.YtmnlbedgkjnodaaDoorW.PrintWords Go.Proofs.YtmnlbedgkjnodaaDoorW.PrintLast Go.Proofs.YtmnlbedgkjnodaaDoorW.PrintMore
attribute [local go_sem] max2_int min2_int max_two min_two max_three min_three max_four min_four   -- for this text's walks alone
def IsS94 (w0 W : World) (g : Nat) (f0 : List Int) (f1 : Int) : Prop := ∃ A0 c0, W.heap[g]? = some (.cells #[.slice A0 f0.length c0, .int .i64 f1] 94 (0, 0)) ∧ w0.heap.size ≤ g ∧ Kd.C (Kd.int .u8) w0 A0 f0.length f0
theorem IsS94.grown {w0 W : World} {g : Nat} {f0 : List Int} {f1 : Int} {W1 : World} {row : Option Nat} (h : IsS94 w0 W g f0 f1) (hw : W.grownBy W1 row) (hne : some g ≠ row) : IsS94 w0 W1 g f0 f1 := by
  obtain ⟨A0, c0, hb, hg, hr0⟩ := h
  exact ⟨A0, c0, blk_grown hb hw hne, hg, hr0⟩
theorem IsS94.below {w0 W : World} {g : Nat} {f0 : List Int} {f1 : Int} {W1 : World} (h : IsS94 w0 W g f0 f1) (hw : Below W.heap.size W W1) : IsS94 w0 W1 g f0 f1 := h.grown (grown_of_below hw none) (by simp)
theorem IsS94.alloc {w0 W : World} {g : Nat} {f0 : List Int} {f1 : Int} (h : IsS94 w0 W g f0 f1) (o : Obj) : IsS94 w0 (W.alloc o) g f0 f1 := h.below (below_alloc (Below.refl _ _) o)
theorem IsS94.drewN {w0 W : World} {g : Nat} {f0 : List Int} {f1 : Int} (h : IsS94 w0 W g f0 f1) (m : Nat) : IsS94 w0 (W.drewN m) g f0 f1 := h
theorem IsS94.drew {w0 W : World} {g : Nat} {f0 : List Int} {f1 : Int} (h : IsS94 w0 W g f0 f1) : IsS94 w0 W.drew g f0 f1 := h
theorem IsS94.at_ {w0 W : World} {g : Nat} {f0 : List Int} {f1 : Int} {w' : World} {m : Nat} (hq : W.drewN m = w') (h : IsS94 w0 W g f0 f1) : IsS94 w0 w' g f0 f1 := by subst hq; exact IsS94.drewN h m
theorem IsS94.apart {w0 W : World} {g : Nat} {f0 : List Int} {f1 : Int} {α : Type} {d : Kd α} {e : Nat} {base : Nat} {ok : Nat → Prop} {v : Value} {xs : List α} (h : IsS94 w0 W g f0 f1) (ho : d.R e W base ok v xs) (ht : ∀ q, q ∈ e :: d.E → q ≠ 94) : d.R e W base (fun k => ok k ∧ k ≠ g) v xs := by
  obtain ⟨A0, c0, hb, hg, hr0⟩ := h
  exact Kd.R_types ho hb ht
theorem IsS94.lt {w0 W : World} {g : Nat} {f0 : List Int} {f1 : Int} (h : IsS94 w0 W g f0 f1) : g < W.heap.size := by
  obtain ⟨A0, c0, hb, hg, hr0⟩ := h
  exact blk_lt hb
theorem IsS94.ge {w0 W : World} {g : Nat} {f0 : List Int} {f1 : Int} (h : IsS94 w0 W g f0 f1) : w0.heap.size ≤ g := by
  obtain ⟨A0, c0, hb, hg, hr0⟩ := h
  exact hg
def bytes_Equal.f (l0 : List Int) (l1 : List Int) : Option (Bool) := some ((strOfNums l0).toList == (strOfNums l1).toList)
set_option maxHeartbeats 8000000 in
set_option maxRecDepth 100000 in
theorem bytes_Equal.calls (A0 : Option Addr) (c0 : Nat) (l0 : List Int) (A1 : Option Addr) (c1 : Nat) (l1 : List Int) (r : Bool) (w : World) (hr0 : Kd.C (Kd.int .u8) w A0 l0.length l0) (hc0 : l0.length ≤ c0) (hr1 : Kd.C (Kd.int .u8) w A1 l1.length l1) (hc1 : l1.length ≤ c1) (h : bytes_Equal.f l0 l1 = some r) :
    Calls Tryd.prog 38 #[.slice A0 l0.length c0, .slice A1 l1.length c1] w fun e w' => e = .returned (.bool r) ∧ Drawn0 w w' := by
  have HR0 := Aside0.mk hr0
  have HC0 := Aside0.mk hc0
  clear hr0 hc0
  have HR1 := Aside0.mk hr1
  have HC1 := Aside0.mk hc1
  clear hr1 hc1
  have H : (some ((strOfNums l0).toList == (strOfNums l1).toList)) = some r := h
  clear h
  obtain rfl := Option.some.inj H
  have hcv3 := Kd.C_string (P := Tryd.prog) (A := A0) (c := c0) Tryd.underlying23 Tryd.underlying5 Tryd.underlying9 HR0.out
  have hcv4 := Kd.C_string (P := Tryd.prog) (A := A1) (c := c1) Tryd.underlying23 Tryd.underlying5 Tryd.underlying9 HR1.out
  go_enter Tryd.func38, Tryd.ntmps38
  go_wp2
  go_ret
  exact ⟨by first | rfl | (simp; done) | (simp [*]; done), by repeat (first | exact Drawn0.refl _ | apply Drawn0.step)⟩
end Go.Proofs.YtmnlbedgkjnodaaDoor.QB
