/- What the call of the codec's decoder comes to.
   The call of tsz.Decode as a Lean function laid by hand (a stand-in for the printer). -/
import Derived.Test.YtmnlbedgkjnodaaDoorZTszBack18
import Derived.Test.YtmnlbedgkjnodaaDoorZTszBack19
namespace Go.Proofs.YtmnlbedgkjnodaaDoor.TdW
open Go.RowKit Go.Proofs.YtmnlbedgkjnodaaDoorW.PrintWords Go.Proofs.YtmnlbedgkjnodaaDoorW.PrintLast Go.Proofs.YtmnlbedgkjnodaaDoorW.PrintMore Go.Proofs.YtmnlbedgkjnodaaDoor.QB Go.Proofs.YtmnlbedgkjnodaaDoor.Sl Go.Proofs.YtmnlbedgkjnodaaDoor.Bt Go.Proofs.YtmnlbedgkjnodaaDoor.WrW Go.Proofs.YtmnlbedgkjnodaaDoor.RdW Go.Proofs.YtmnlbedgkjnodaaDoor.TzP Go.Proofs.YtmnlbedgkjnodaaDoor.TzW Go.Proofs.YtmnlbedgkjnodaaDoor.TeP Go.Proofs.YtmnlbedgkjnodaaDoor.TeW Go.Proofs.YtmnlbedgkjnodaaDoor.TdP Go.Proofs.YtmnlbedgkjnodaaDoor.Ld Go.Proofs.YtmnlbedgkjnodaaDoor.Uv Go.Proofs.YtmnlbedgkjnodaaDoor.UvP
set_option linter.unusedVariables false
set_option linter.unusedSimpArgs false
theorem ruv_parts {b : List Int} (hb : Bytes b) : ∃ (v n : Nat), ruv b = ((v : Int), (n : Int)) ∧ n ≤ b.length ∧ v < 18446744073709551616 := by
  rcases ruv_cases hb with ⟨h, _⟩ | ⟨v, t, h1, h2, h3⟩
  · exact ⟨0, 0, h, Nat.zero_le _, by omega⟩
  · exact ⟨v, (uv v).length, h3, by rw [h1, List.length_append]; omega, h2⟩
/-- The points that bytes are, and 0; or none, and the error. -/
def decP (b : List Int) : List Pt × Int :=
  if (ruv b).2 = 0 ∨ 512 < (ruv b).1 then ([], 50) else
    match pointsP (b.drop (ruv b).2.toNat) (ruv b).1.toNat with
    | none => ([], 50)
    | some l => if (encT l).2 = 0 ∧ (encT l).1 = b then (l, 0) else ([], 50)
theorem dpoints_none {w0 w : World} {L : List Asn} {g : Nat} {b : List Int} {n : Nat} (hp : pointsP b n = none) (hn : n ≤ 512) (hb : b.length ≤ 1099511627776) (hby : ∀ x ∈ b, 0 ≤ x ∧ x < 256) (hL : LaidW w0) (h : Sat w0 w (Rd g b 0 :: L)) :
    Calls Tryd.prog 37 #[.agg #[.pointer (some ⟨g, 0, none⟩)], .int .i64 (n : Int)] w fun e w' => e = .panicked [wrongE] ∧ Sat w0 w' L := by
  refine (dpoints_calls w0 w L g b n hn hb hby hL h).mono ?_
  intro e w' ho
  rw [hp] at ho
  obtain ⟨he, q, hs⟩ := ho
  exact ⟨he, hs.tail⟩
theorem dpoints_some {w0 w : World} {L : List Asn} {g : Nat} {b : List Int} {n : Nat} {l : List Pt} (hp : pointsP b n = some l) (hn : n ≤ 512) (hb : b.length ≤ 1099511627776) (hby : ∀ x ∈ b, 0 ≤ x ∧ x < 256) (hL : LaidW w0) (h : Sat w0 w (Rd g b 0 :: L)) :
    Calls Tryd.prog 37 #[.agg #[.pointer (some ⟨g, 0, none⟩)], .int .i64 (n : Int)] w fun e w' => ∃ A c, e = .returned (.slice A l.length c) ∧ OkL l ∧ Sat w0 w' (Row k33 33 (.slice A l.length c) l :: L) := by
  refine (dpoints_calls w0 w L g b n hn hb hby hL h).mono ?_
  intro e w' ho
  rw [hp] at ho
  obtain ⟨v, q, he, hok, hs⟩ := ho
  obtain ⟨A, c, rfl, _, _⟩ := hs.rowSlice
  exact ⟨A, c, he, hok, (hs.nth 1 rfl).tail⟩
theorem goP_length (b : List Int) : ∀ (m : Nat) (l : List Pt) (st : St) (p : Nat) (r : List Pt), goP b m l st p = some r → r.length = l.length + m
  | 0, l, st, p, r, h => by cases h; rfl
  | m + 1, l, st, p, r, h => by
    rw [goP] at h
    split at h
    · obtain ⟨x, _, h2⟩ := Option.bind_eq_some_iff.1 h
      have := goP_length b m _ _ _ _ h2
      rw [List.length_append, List.length_singleton] at this
      omega
    · obtain ⟨x, _, h2⟩ := Option.bind_eq_some_iff.1 h
      have := goP_length b m _ _ _ _ h2
      rw [List.length_append, List.length_singleton] at this
      omega
theorem pointsP_length {b : List Int} {n : Nat} {l : List Pt} (h : pointsP b n = some l) : l.length = n := by
  have := goP_length b n _ _ _ _ h
  simpa using this
theorem encT_bytes (l : List Pt) : Bytes (encT l).1 := by
  unfold encT
  split
  · exact Go.Proofs.YtmnlbedgkjnodaaDoor.TeK.encB_bytes l
  · intro x hx; cases hx
/-- What a call of the decoder leaves. -/
def DecOut (b : List Int) (w : World) (e : Ending) (w' : World) : Prop := ∃ v, e = .returned (.tuple #[v, .int .i64 (decP b).2]) ∧ Sat w w' (Row k33 33 v (decP b).1 :: [])
theorem DecOut.bad {b : List Int} {w w' : World} {e : Ending} {L : List Asn} (hd : decP b = ([], 50)) (he : e = .returned (.tuple #[.slice none 0 0, .int .i64 50])) (hs : Sat w w' L) : DecOut b w e w' := by
  refine ⟨.slice none 0 0, by rw [hd]; exact he, ?_⟩
  rw [hd]
  exact Sat.nilRow _ _ ⟨hs.below, trivial⟩
set_option maxHeartbeats 4000000 in
set_option maxRecDepth 20000 in
theorem Decode_calls (w : World) (A : Option Addr) (c : Nat) (b : List Int) (hC : Kd.C (Kd.int .u8) w A b.length b) (hc : b.length ≤ c) (hl : b.length ≤ 1000000) (hby : Bytes b) (hL : LaidW w) :
    Calls Tryd.prog 19 #[.slice A b.length c] w (DecOut b w) := by
  have hmf : ∀ (fn : Fn) (first cap : Array Value) (w : World), (Instr.makeFunc fn first cap).run Tryd.prog w = .ok (.func fn first cap) w := fun _ _ _ _ => rfl
  obtain ⟨v, n, hv, hn, hlt⟩ := ruv_parts hby
  have hf := bits_Read_f (k := 30) hby (by omega) (by omega)
  rw [hv] at hf
  have HF := Aside0.mk hf
  have HC := Aside0.mk hC
  have HL := Aside0.mk hL
  have HBY := Aside0.mk hby
  have H1 : Aside0 (Sat w ((w.alloc (.cells #[.slice none 0 0] 22)).alloc (.cells #[.int .i64 0] 24)) (Blk w.heap.size #[.slice none 0 0] 22 :: Blk (w.heap.size + 1) #[.int .i64 0] 24 :: [])) := ⟨by
    have h := (((Sat.start w).newBlk #[.slice none 0 0] 22).newBlk #[.int .i64 0] 24).nth 1 rfl
    rw [alloc_size] at h
    exact h⟩
  obtain ⟨i0, hi0, _, hsz, _⟩ := info_parts info5
  have HI := Aside0.mk (And.intro hi0 hsz)
  clear hf hC hL hby HI
  go_enter_defers Tryd.func19, Tryd.ntmps19
  go_upto_region 2 with (fail)
  generalize (w.alloc (.cells #[.slice none 0 0] 22)).alloc (.cells #[.int .i64 0] 24) = w1 at H1 ⊢
  generalize w.heap.size + 1 = g2 at H1 ⊢
  generalize w.heap.size = g1 at H1 ⊢
  go_upto_region 3 with (first | (go_at_call 35; go_loud ((with_reducible refine (bits_ReadUvarint.calls 30 A c b (v : Int) (n : Int) _ (Kd.C_below HC.out H1.out.below) hc HF.out).mono ?_); rintro e w2 ⟨rfl, ⟨⟨m, hm⟩⟩⟩; have H2 := Aside0.mk (H1.out.drewN m); rw [← hm] at H2; clear hm)))
  clear H1 hmf
  by_cases hz : (n : Int) = 0 ∨ 512 < (v : Int)
  · have HD := Aside0.mk (show decP b = ([], 50) by unfold decP; rw [hv]; simp only; rw [if_pos hz])
    clear hv
    have x1 := H2.out.cell 0 (v := .slice none 0 0) rfl
    have x2 := H2.out.free 0
    have hq1 := (H2.out.setBlk 0 (.slice none 0 0)).nth 1 rfl
    have y1 := hq1.cell 0 (v := .int .i64 0) rfl
    have y2 := hq1.free 0
    have hq2 := (hq1.setBlk 0 (.int .i64 50)).nth 1 rfl
    have HQ := Aside0.mk hq2
    clear hq1 hq2
    by_cases hn0 : (n : Int) = 0
    · have d1 : ((n : Int) == 0) = true := by rw [beq_iff_eq]; omega
      clear hz hn0
      go_wp2_with fail
      have k1 := HQ.out.cell 0 (v := .slice none 0 0) rfl
      have k2 := (HQ.out.nth 1 rfl).cell 0 (v := .int .i64 50) rfl
      refine leaves_cons (f := 34) (args := #[.pointer (some ⟨g1, 0, none⟩), .pointer (some ⟨g2, 0, none⟩)]) (by simp) (by simp [go_sem]) ?_
      refine (catch_idle _ _ _).mono ?_
      rintro e u' w'' ⟨rfl, rfl, rfl⟩
      simp [Leaves, settle, results, Tryd.results19, go_sem, k1, k2]
      exact DecOut.bad HD.out rfl HQ.out
    · have d1 : ((n : Int) == 0) = false := by rw [beq_eq_false_iff_ne]; omega
      have d2 : decide (512 < (v : Int)) = true := decide_eq_true (by omega)
      clear hz hn0
      go_wp2_with fail
      have k1 := HQ.out.cell 0 (v := .slice none 0 0) rfl
      have k2 := (HQ.out.nth 1 rfl).cell 0 (v := .int .i64 50) rfl
      refine leaves_cons (f := 34) (args := #[.pointer (some ⟨g1, 0, none⟩), .pointer (some ⟨g2, 0, none⟩)]) (by simp) (by simp [go_sem]) ?_
      refine (catch_idle _ _ _).mono ?_
      rintro e u' w'' ⟨rfl, rfl, rfl⟩
      simp [Leaves, settle, results, Tryd.results19, go_sem, k1, k2]
      exact DecOut.bad HD.out rfl HQ.out
  · have d1 : ((n : Int) == 0) = false := by rw [beq_eq_false_iff_ne]; omega
    have d2 : decide (512 < (v : Int)) = false := decide_eq_false (by omega)
    have e1 : IntKind.i64.wrap (v : Int) = (v : Int) := by rw [IntKind.wrap_i64]; omega
    have hv5 : v ≤ 512 := by omega
    have hDP : decP b = (match pointsP (b.drop n) v with
      | none => ([], 50)
      | some l => if (encT l).2 = 0 ∧ (encT l).1 = b then (l, 0) else ([], 50)) := by unfold decP; rw [hv]; simp only; rw [if_neg hz, Int.toNat_natCast, Int.toNat_natCast]
    have HDP := Aside0.mk hDP
    have cf := cut_from (P := Tryd.prog) 23 5 .i64 Tryd.underlying23 hi0 1 hsz A b.length c (n : Int) (by omega) (by omega)
    simp only [Int.toNat_natCast] at cf
    obtain ⟨A2, hA2⟩ : ∃ A2, A2 = (if c = n then A else (A : Option Addr).map (·.add (n * 1))) := ⟨_, rfl⟩
    rw [← hA2] at cf
    have hCd2 : Kd.C (Kd.int .u8) w A2 (b.drop n).length (b.drop n) := by rw [hA2]; exact Kd.C_drop (m := n) HC.out hn hc
    have HCD := Aside0.mk hCd2
    have HBD : Aside0 (∀ x ∈ b.drop n, 0 ≤ x ∧ x < 256) := ⟨fun x hx => HBY.out x (List.mem_of_mem_drop hx)⟩
    obtain ⟨bd, hbd⟩ : ∃ bd, b.drop n = bd := ⟨_, rfl⟩
    have hbl : bd.length = b.length - n := by rw [← hbd, List.length_drop]
    rw [← hbl] at cf
    rw [hbd] at HCD HBD HDP
    clear hi0 hsz hA2 hCd2 hz hv hDP
    have hbl2 : bd.length ≤ c - n := by omega
    have hbl3 : bd.length < 140737488355328 := by omega
    have hbl4 : bd.length ≤ 1099511627776 := by omega
    clear hbd hbl
    cases hp : pointsP bd v with
    | none =>
      have HD := Aside0.mk (show decP b = ([], 50) by rw [HDP.out, hp])
      clear HDP
      go_wp2_with (first | (go_at_call 36; go_loud ((with_reducible refine (NewReader_calls w w2 _ A2 (c - n) bd (Kd.C_below HCD.out H2.out.below) hbl2 hbl3 H2.out).mono ?_); rintro e w3 ⟨gr, rfl, hs⟩; have H3 := Aside0.mk hs; clear hs)) | (go_at_call 37; go_loud ((with_reducible refine (dpoints_none hp hv5 hbl4 HBD.out HL.out H3.out).mono ?_); rintro e w4 ⟨rfl, hs⟩; have H4 := Aside0.mk hs; clear hs)))
      show Leaves Tryd.prog Tryd.f19 _ _ _ (.panicking [wrongE]) _
      refine leaves_cons (f := 34) (args := #[.pointer (some ⟨g1, 0, none⟩), .pointer (some ⟨g2, 0, none⟩)]) (by simp) (by simp [go_sem]) ?_
      refine (catch_panicking g1 g2 _ _ _ _ H4.out).mono ?_
      rintro e u' w'' ⟨rfl, rfl, hs⟩
      have k1 := hs.cell 0 (v := .slice none 0 0) rfl
      have k2 := (hs.nth 1 rfl).cell 0 (v := .int .i64 50) rfl
      simp [Leaves, settle, results, wrongE, Tryd.results19, go_sem, k1, k2]
      exact DecOut.bad HD.out rfl hs
    | some l =>
      have HLL := Aside0.mk (show l.length ≤ 1000000 by have := pointsP_length hp; omega)
      have HDQ := Aside0.mk (show decP b = if (encT l).2 = 0 ∧ (encT l).1 = b then (l, 0) else ([], 50) by rw [HDP.out, hp])
      obtain ⟨r1, r2, hE⟩ : ∃ r1 r2, encT l = (r1, r2) := ⟨_, _, rfl⟩
      have HR1 := Aside0.mk (show Bytes r1 by have := encT_bytes l; rw [hE] at this; exact this)
      rw [hE] at HDQ
      have HE := Aside0.mk hE
      clear HDP hE
      go_upto_region 6 with (first | (go_at_call 36; go_loud ((with_reducible refine (NewReader_calls w w2 _ A2 (c - n) bd (Kd.C_below HCD.out H2.out.below) hbl2 hbl3 H2.out).mono ?_); rintro e w3 ⟨gr, rfl, hs⟩; have H3 := Aside0.mk hs; clear hs)) | (go_at_call 37; go_loud ((with_reducible refine (dpoints_some hp hv5 hbl4 HBD.out HL.out H3.out).mono ?_); rintro e w4 ⟨A3, c3, rfl, hok, hs⟩; have HOK := Aside0.mk hok; have x1 := (hs.nth 1 rfl).cell 0 (v := .slice none 0 0) rfl; have x2 := (hs.nth 1 rfl).free 0; have H4 := Aside0.mk ((hs.nth 1 rfl).setBlk 0 (.slice A3 l.length c3)); clear hs hok)))
      generalize w4.setCell ⟨g1, 0, none⟩ (.slice A3 l.length c3) = w5 at H4 ⊢
      have z1 := H4.out.cell 0 (v := .slice A3 l.length c3) rfl
      have hr3 := (H4.out.nth 1 rfl).rowLen
      have HFE := Aside0.mk (show tsz_Encode.f l = some (r1, r2) by rw [tsz_Encode.f_eq HLL.out HOK.out, HE.out])
      go_upto_region 7 with (first | (go_at_call 11; go_loud ((with_reducible refine (tsz_Encode.calls A3 c3 l r1 r2 w5 (H4.out.nth 1 rfl).rowC hr3.2 HFE.out (LaidW.below HL.out H4.out.below)).mono ?_); rintro e w6 ⟨v4, rfl, hr, hb⟩; obtain ⟨A4, c4, rfl⟩ := Kd.R_slice hr; have H6 := Aside0.mk (H4.out.made hb hr); clear hr hb)))
      have hr4 := H6.out.rowLen.2
      clear z1 H4
      by_cases he : r2 = 0
      · subst he
        by_cases hb : r1 = b
        · have HD := Aside0.mk (show decP b = (l, 0) by rw [HDQ.out, if_pos ⟨rfl, hb⟩])
          have HEQ := Aside0.mk (show bytes_Equal.f b r1 = some true by unfold bytes_Equal.f; rw [hb, beq_self_eq_true])
          clear HDQ hb
          go_wp2_with (first | (go_at_call 38; go_loud ((with_reducible refine (bytes_Equal.calls A c b A4 c4 r1 _ w6 (Kd.C_below HC.out H6.out.below) hc H6.out.rowC hr4 HEQ.out).mono ?_); rintro e w7 ⟨rfl, ⟨⟨m7, hm7⟩⟩⟩; have H7 := Aside0.mk (H6.out.drewN m7); rw [← hm7] at H7; clear hm7; have x1 := (H7.out.nth 1 rfl).cell 0 (v := .slice A3 l.length c3) rfl; have x2 := (H7.out.nth 1 rfl).free 0; have hq1 := (((H7.out.nth 1 rfl).setBlk 0 (.slice A3 l.length c3)).nth 3 rfl); have y1 := hq1.cell 0 (v := .int .i64 0) rfl; have y2 := hq1.free 0; have HQ := Aside0.mk (hq1.setBlk 0 (.int .i64 0)); clear hq1)))
          have k1 := (HQ.out.nth 1 rfl).cell 0 (v := .slice A3 l.length c3) rfl
          have k2 := ((HQ.out.nth 1 rfl).nth 1 rfl).cell 0 (v := .int .i64 0) rfl
          refine leaves_cons (f := 34) (args := #[.pointer (some ⟨g1, 0, none⟩), .pointer (some ⟨g2, 0, none⟩)]) (by simp) (by simp [go_sem]) ?_
          refine (catch_idle _ _ _).mono ?_
          rintro e u' w'' ⟨rfl, rfl, rfl⟩
          simp [Leaves, settle, results, Tryd.results19, go_sem, k1, k2]
          exact ⟨_, by rw [HD.out], by rw [HD.out]; exact drop3 (HQ.out.nth 3 rfl)⟩
        · have HD := Aside0.mk (show decP b = ([], 50) by rw [HDQ.out, if_neg (fun h => hb h.2)])
          have HEQ := Aside0.mk (show bytes_Equal.f b r1 = some false by
            unfold bytes_Equal.f
            rw [show ((strOfNums b).toList == (strOfNums r1).toList) = false from beq_eq_false_iff_ne.2 fun e => hb (Go.Proofs.YtmnlbedgkjnodaaDoor.UvN.str_inj' HR1.out HBY.out e.symm)])
          clear HDQ hb
          go_wp2_with (first | (go_at_call 38; go_loud ((with_reducible refine (bytes_Equal.calls A c b A4 c4 r1 _ w6 (Kd.C_below HC.out H6.out.below) hc H6.out.rowC hr4 HEQ.out).mono ?_); rintro e w7 ⟨rfl, ⟨⟨m7, hm7⟩⟩⟩; have H7 := Aside0.mk (H6.out.drewN m7); rw [← hm7] at H7; clear hm7; have x1 := (H7.out.nth 1 rfl).cell 0 (v := .slice A3 l.length c3) rfl; have x2 := (H7.out.nth 1 rfl).free 0; have hq1 := (((H7.out.nth 1 rfl).setBlk 0 (.slice none 0 0)).nth 3 rfl); have y1 := hq1.cell 0 (v := .int .i64 0) rfl; have y2 := hq1.free 0; have HQ := Aside0.mk (hq1.setBlk 0 (.int .i64 50)); clear hq1)))
          have k1 := (HQ.out.nth 1 rfl).cell 0 (v := .slice none 0 0) rfl
          have k2 := ((HQ.out.nth 1 rfl).nth 1 rfl).cell 0 (v := .int .i64 50) rfl
          refine leaves_cons (f := 34) (args := #[.pointer (some ⟨g1, 0, none⟩), .pointer (some ⟨g2, 0, none⟩)]) (by simp) (by simp [go_sem]) ?_
          refine (catch_idle _ _ _).mono ?_
          rintro e u' w'' ⟨rfl, rfl, rfl⟩
          simp [Leaves, settle, results, Tryd.results19, go_sem, k1, k2]
          exact DecOut.bad HD.out rfl HQ.out
      · have HD := Aside0.mk (show decP b = ([], 50) by rw [HDQ.out, if_neg (fun h => he h.1)])
        have d3 : (r2 != 0) = true := by rw [bne_iff_ne]; exact he
        have d4 : (r2 == 0) = false := by rw [beq_eq_false_iff_ne]; exact he
        have x1 := (H6.out.nth 1 rfl).cell 0 (v := .slice A3 l.length c3) rfl; have x2 := (H6.out.nth 1 rfl).free 0; have hq1 := (((H6.out.nth 1 rfl).setBlk 0 (.slice none 0 0)).nth 3 rfl); have y1 := hq1.cell 0 (v := .int .i64 0) rfl; have y2 := hq1.free 0; have HQ := Aside0.mk (hq1.setBlk 0 (.int .i64 50)); clear hq1
        clear HDQ he
        go_wp2_with fail
        have k1 := (HQ.out.nth 1 rfl).cell 0 (v := .slice none 0 0) rfl
        have k2 := ((HQ.out.nth 1 rfl).nth 1 rfl).cell 0 (v := .int .i64 50) rfl
        refine leaves_cons (f := 34) (args := #[.pointer (some ⟨g1, 0, none⟩), .pointer (some ⟨g2, 0, none⟩)]) (by simp) (by simp [go_sem]) ?_
        refine (catch_idle _ _ _).mono ?_
        rintro e u' w'' ⟨rfl, rfl, rfl⟩
        simp [Leaves, settle, results, Tryd.results19, go_sem, k1, k2]
        exact DecOut.bad HD.out rfl HQ.out
end Go.Proofs.YtmnlbedgkjnodaaDoor.TdW
namespace Go.Proofs.YtmnlbedgkjnodaaDoor.QB
open Go.RowKit Go.Proofs.YtmnlbedgkjnodaaDoorW.PrintWords Go.Proofs.YtmnlbedgkjnodaaDoorW.PrintLast Go.Proofs.YtmnlbedgkjnodaaDoorW.PrintMore Go.Proofs.YtmnlbedgkjnodaaDoor.TeP
set_option linter.unusedVariables false
def tsz_Decode.f (l0 : List Int) : Option (List (S33) × Int) := if l0.length ≤ 1000000 ∧ (l0.all fun x => decide (0 ≤ x ∧ x < 256)) = true then some (TdW.decP l0) else none
theorem tsz_Decode.f_eq {l : List Int} (hl : l.length ≤ 1000000) (hb : ∀ x ∈ l, 0 ≤ x ∧ x < 256) : tsz_Decode.f l = some (TdW.decP l) := by
  unfold tsz_Decode.f
  rw [if_pos ⟨hl, List.all_eq_true.2 fun p hp => decide_eq_true (hb p hp)⟩]
theorem tsz_Decode.calls (A0 : Option Addr) (c0 : Nat) (l0 : List Int) (r1 : List (S33)) (r2 : Int) (w : World) (hr0 : Kd.C (Kd.int .u8) w A0 l0.length l0) (hc0 : l0.length ≤ c0) (h : tsz_Decode.f l0 = some (r1, r2)) (hL : Ld.LaidW w) :
    Calls Tryd.prog 19 #[.slice A0 l0.length c0] w fun e w' => ∃ v0_ : Value, e = .returned (.tuple #[v0_, .int .i64 r2]) ∧ Kd.R k33 33 w' w.heap.size (fun _ => True) v0_ r1 ∧ Below w.heap.size w w' := by
  unfold tsz_Decode.f at h
  split at h
  · rename_i hc
    obtain ⟨hl, hall⟩ := hc
    have hb : ∀ x ∈ l0, 0 ≤ x ∧ x < 256 := fun p hp => of_decide_eq_true (List.all_eq_true.1 hall p hp)
    have h := Option.some.inj h
    refine (TdW.Decode_calls w A0 c0 l0 hr0 hc0 hl hb hL).mono ?_
    rintro e w' ⟨v, rfl, hs⟩
    rw [h] at hs ⊢
    obtain ⟨G, h1, h2⟩ := hs.get
    exact ⟨v, rfl, Kd.R_mono h1 (fun _ _ => trivial), hs.below⟩
  · cases h
end Go.Proofs.YtmnlbedgkjnodaaDoor.QB
