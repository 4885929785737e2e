/- Points encoded, in plain words, without the laws: the check, how long, the bytes; lists that differ in nothing.
   What the call of the codec's decoder comes to.
   The document's decoder of points: in plain words, and what its call comes to. -/
import Derived.Test.YtmnlbedgkjnodaaDoorZTszOne8
import Derived.Test.YtmnlbedgkjnodaaDoorZTszOne9
import Derived.Test.YtmnlbedgkjnodaaDoorZTszOne17
import Derived.Test.YtmnlbedgkjnodaaDoorZTszOne12
import Derived.Test.YtmnlbedgkjnodaaDoorZTszOne14
import Derived.Test.YtmnlbedgkjnodaaDoorZTszOne15
set_option linter.unusedSimpArgs false
set_option linter.unusedVariables false
namespace Go.Proofs.YtmnlbedgkjnodaaDoor.TeK
open Go.RowKit Go.Proofs.YtmnlbedgkjnodaaDoorW.PrintWords Go.Proofs.YtmnlbedgkjnodaaDoorW.PrintLast Go.Proofs.YtmnlbedgkjnodaaDoorW.PrintMore Go.Proofs.YtmnlbedgkjnodaaDoor.QB Go.Proofs.YtmnlbedgkjnodaaDoor.Bt Go.Proofs.YtmnlbedgkjnodaaDoor.Uv Go.Proofs.YtmnlbedgkjnodaaDoor.TzP Go.Proofs.YtmnlbedgkjnodaaDoor.TeP Go.Proofs.YtmnlbedgkjnodaaDoor.TeW Go.Proofs.YtmnlbedgkjnodaaDoor.UvP
def prevT (l : List Pt) (i : Nat) : Int := if i = 0 then -1 else (l.getD (i - 1) zp).f0
theorem ref_check_l0 (l : List Pt) (hl : l.length ≤ 1000000) : ∀ (d i k : Nat), i + d = l.length → 2 * d < k → thermographref05_Check.l0 k l (i : Int) = some (chk (prevT l i) (l.drop i)) := by
  intro d
  induction d with
  | zero =>
    intro i k hi hk
    obtain ⟨k, rfl⟩ : ∃ m, k = m + 1 := ⟨k - 1, by omega⟩
    simp only [thermographref05_Check.l0]
    rw [if_neg (by omega), List.drop_eq_nil_of_le (by omega)]
    rfl
  | succ d ih =>
    intro i k hi hk
    obtain ⟨k, rfl⟩ : ∃ m, k = m + 2 := ⟨k - 2, by omega⟩
    have hlt : i < l.length := by omega
    simp only [thermographref05_Check.l0]
    rw [if_pos (by omega), if_pos (by omega), rdT, getD_at hlt, List.drop_eq_getElem_cons hlt]
    unfold chk
    have hw : wrap64 ((i : Int) + 1) = ((i + 1 : Nat) : Int) := by unfold wrap64; omega
    have hn : prevT l (i + 1) = l[i].f0 := by
      unfold prevT
      rw [if_neg (by omega), Nat.add_sub_cancel, getD_at hlt]
    by_cases h1 : l[i].f0 < 0
    · rw [if_pos h1, if_pos (.inl h1)]
      simp only [thermographref05_Check.j1]
      rfl
    · rw [if_neg h1]
      by_cases h2 : 1099511627776 < l[i].f0
      · rw [if_pos (.inr h2)]
        simp only [thermographref05_Check.j1]
        rw [if_pos (decide_eq_true h2)]
      · rw [if_neg (by omega)]
        simp only [thermographref05_Check.j1]
        rw [if_neg (by simpa using h2)]
        have hih := ih (i + 1) k (by omega) (by omega)
        rw [hn] at hih
        rcases Nat.eq_zero_or_pos i with h0 | h0
        · subst h0
          rw [if_neg (by omega), hw, hih, if_neg (by unfold prevT; rw [if_pos rfl]; omega)]
        · have hm : wrap64 ((i : Int) - 1) = ((i - 1 : Nat) : Int) := by unfold wrap64; omega
          have hp : prevT l i = (l.getD (i - 1) zp).f0 := by unfold prevT; rw [if_neg (by omega)]
          rw [if_pos (by omega), if_pos (by omega), if_pos (by omega), hm, if_pos (by omega), if_pos (by omega), rdT, rdT, getD_at hlt, hp]
          by_cases h3 : l[i].f0 ≤ (l.getD (i - 1) zp).f0
          · rw [if_pos h3, if_pos h3]
          · rw [if_neg h3, if_neg h3, hw]
            exact hih
theorem ref_check_f {l : List Pt} (hl : l.length ≤ 1000000) {k : Nat} (hk : 2 * l.length < k) : thermographref05_Check.f k l = some (checkF l) := by
  unfold thermographref05_Check.f checkF
  by_cases h : 512 < l.length
  · rw [if_pos (by omega), if_pos h]
  · rw [if_neg (by omega), if_neg h]
    exact ref_check_l0 l hl l.length 0 k (by omega) hk
theorem encT_snd (l : List Pt) : (encT l).2 = checkF l := by
  unfold encT
  by_cases h : checkF l = 0
  · rw [if_pos h, h]
  · rw [if_neg h]
theorem encT_ok {l : List Pt} (h : checkF l = 0) : encT l = (encB l, 0) := by unfold encT; rw [if_pos h]
theorem encT_bad {l : List Pt} (h : checkF l ≠ 0) : encT l = ([], checkF l) := by unfold encT; rw [if_neg h]
theorem goB_len (l : List Pt) : ∀ j, 192 + 3 * j ≤ (goB l (j + 1)).1.length ∧ (goB l (j + 1)).1.length ≤ 192 + 222 * j
  | 0 => by rw [goB_one]; simp [first_length]
  | j + 1 => by
    have h1 := goB_len l j
    have h2 := step_length (l.getD j zp) (l.getD (j + 1) zp) (goB l (j + 1)).2
    rw [goB_succ]
    simp only [List.length_append]
    omega
theorem bitsT_len {l : List Pt} (h : 0 < l.length) : 192 + 3 * (l.length - 1) ≤ (bitsT l).length ∧ (bitsT l).length ≤ 192 + 222 * (l.length - 1) := by
  have := goB_len l (l.length - 1)
  unfold bitsT
  rwa [show l.length - 1 + 1 = l.length from by omega] at this
theorem encB_len (l : List Pt) (hn : l.length ≤ 512) : 1 ≤ (encB l).length ∧ (encB l).length ≤ 26 + 28 * (l.length - 1) := by
  have h1 := uv_length_le l.length 2 (by omega) (by omega)
  have h2 := uv_pos l.length
  unfold encB
  rw [List.length_append, pk_length]
  rcases Nat.eq_zero_or_pos l.length with h | h
  · have e : l = [] := List.eq_nil_of_length_eq_zero h
    subst e
    have h3 : (uv 0).length ≤ 2 := uv_length_le 0 2 (by omega) (by omega)
    have h4 := uv_pos 0
    show 1 ≤ (uv 0).length + (0 + 7) / 8 ∧ (uv 0).length + (0 + 7) / 8 ≤ 26 + 28 * (0 - 1)
    omega
  · have := bitsT_len h
    omega
theorem encB_bytes (l : List Pt) : Bytes (encB l) := by
  intro x hx
  unfold encB at hx
  rcases List.mem_append.1 hx with h | h
  · exact uv_bytes _ x h
  · exact pk_bytes (goB_isBits l _) x h
theorem encT_bytes (l : List Pt) : Bytes (encT l).1 := by
  unfold encT
  split
  · exact encB_bytes l
  · exact fun x hx => by cases hx
theorem encB_small {l : List Pt} (h : checkF l = 0) : (encB l).length ≤ 15000 := by
  obtain ⟨hn, _, _⟩ := checkF_zero h
  have := (encB_len l hn).2
  omega
end Go.Proofs.YtmnlbedgkjnodaaDoor.TeK
namespace Go.Proofs.YtmnlbedgkjnodaaDoor.TdW
open Go.RowKit Go.Proofs.YtmnlbedgkjnodaaDoorW.PrintWords Go.Proofs.YtmnlbedgkjnodaaDoorW.PrintLast Go.Proofs.YtmnlbedgkjnodaaDoorW.PrintMore Go.Proofs.YtmnlbedgkjnodaaDoor.QB Go.Proofs.YtmnlbedgkjnodaaDoor.Sl Go.Proofs.YtmnlbedgkjnodaaDoor.Bt Go.Proofs.YtmnlbedgkjnodaaDoor.WrW Go.Proofs.YtmnlbedgkjnodaaDoor.RdW Go.Proofs.YtmnlbedgkjnodaaDoor.TzP Go.Proofs.YtmnlbedgkjnodaaDoor.TzW Go.Proofs.YtmnlbedgkjnodaaDoor.TeP Go.Proofs.YtmnlbedgkjnodaaDoor.TeW Go.Proofs.YtmnlbedgkjnodaaDoor.TdP Go.Proofs.YtmnlbedgkjnodaaDoor.Ld Go.Proofs.YtmnlbedgkjnodaaDoor.Uv Go.Proofs.YtmnlbedgkjnodaaDoor.UvP
theorem ruv_parts {b : List Int} (hb : Bytes b) : ∃ (v n : Nat), ruv b = ((v : Int), (n : Int)) ∧ n ≤ b.length ∧ v < 18446744073709551616 := by
  rcases ruv_cases hb with ⟨h, _⟩ | ⟨v, t, h1, h2, h3⟩
  · exact ⟨0, 0, h, Nat.zero_le _, by omega⟩
  · exact ⟨v, (uv v).length, h3, by rw [h1, List.length_append]; omega, h2⟩
def decP (b : List Int) : List Pt × Int :=
  if (ruv b).2 = 0 ∨ 512 < (ruv b).1 then ([], 50) else
    match pointsP (b.drop (ruv b).2.toNat) (ruv b).1.toNat with
    | none => ([], 50)
    | some l => if (encT l).2 = 0 ∧ (encT l).1 = b then (l, 0) else ([], 50)
theorem dpoints_none {w0 w : World} {L : List Asn} {g : Nat} {b : List Int} {n : Nat} (hp : pointsP b n = none) (hn : n ≤ 512) (hb : b.length ≤ 1099511627776) (hby : ∀ x ∈ b, 0 ≤ x ∧ x < 256) (hL : LaidW w0) (h : Sat w0 w (Rd g b 0 :: L)) :
    Calls Tryd.prog 37 #[.agg #[.pointer (some ⟨g, 0, none⟩)], .int .i64 (n : Int)] w fun e w' => e = .panicked [wrongE] ∧ Sat w0 w' L := by
  refine (dpoints_calls w0 w L g b n hn hb hby hL h).mono ?_
  intro e w' ho
  rw [hp] at ho
  obtain ⟨he, q, hs⟩ := ho
  exact ⟨he, hs.tail⟩
theorem dpoints_some {w0 w : World} {L : List Asn} {g : Nat} {b : List Int} {n : Nat} {l : List Pt} (hp : pointsP b n = some l) (hn : n ≤ 512) (hb : b.length ≤ 1099511627776) (hby : ∀ x ∈ b, 0 ≤ x ∧ x < 256) (hL : LaidW w0) (h : Sat w0 w (Rd g b 0 :: L)) :
    Calls Tryd.prog 37 #[.agg #[.pointer (some ⟨g, 0, none⟩)], .int .i64 (n : Int)] w fun e w' => ∃ A c, e = .returned (.slice A l.length c) ∧ OkL l ∧ Sat w0 w' (Row k33 33 (.slice A l.length c) l :: L) := by
  refine (dpoints_calls w0 w L g b n hn hb hby hL h).mono ?_
  intro e w' ho
  rw [hp] at ho
  obtain ⟨v, q, he, hok, hs⟩ := ho
  obtain ⟨A, c, rfl, _, _⟩ := hs.rowSlice
  exact ⟨A, c, he, hok, (hs.nth 1 rfl).tail⟩
theorem goP_length (b : List Int) : ∀ (m : Nat) (l : List Pt) (st : St) (p : Nat) (r : List Pt), goP b m l st p = some r → r.length = l.length + m
  | 0, l, st, p, r, h => by cases h; rfl
  | m + 1, l, st, p, r, h => by
    rw [goP] at h
    split at h
    · obtain ⟨x, _, h2⟩ := Option.bind_eq_some_iff.1 h
      have := goP_length b m _ _ _ _ h2
      rw [List.length_append, List.length_singleton] at this
      omega
    · obtain ⟨x, _, h2⟩ := Option.bind_eq_some_iff.1 h
      have := goP_length b m _ _ _ _ h2
      rw [List.length_append, List.length_singleton] at this
      omega
theorem pointsP_length {b : List Int} {n : Nat} {l : List Pt} (h : pointsP b n = some l) : l.length = n := by
  have := goP_length b n _ _ _ _ h
  simpa using this
theorem encT_bytes (l : List Pt) : Bytes (encT l).1 := by
  unfold encT
  split
  · exact Go.Proofs.YtmnlbedgkjnodaaDoor.TeK.encB_bytes l
  · intro x hx; cases hx
def DecOut (b : List Int) (w : World) (e : Ending) (w' : World) : Prop := ∃ v, e = .returned (.tuple #[v, .int .i64 (decP b).2]) ∧ Sat w w' (Row k33 33 v (decP b).1 :: [])
theorem DecOut.bad {b : List Int} {w w' : World} {e : Ending} {L : List Asn} (hd : decP b = ([], 50)) (he : e = .returned (.tuple #[.slice none 0 0, .int .i64 50])) (hs : Sat w w' L) : DecOut b w e w' := by
  refine ⟨.slice none 0 0, by rw [hd]; exact he, ?_⟩
  rw [hd]
  exact Sat.nilRow _ _ ⟨hs.below, trivial⟩
set_option maxHeartbeats 4000000 in
set_option maxRecDepth 20000 in
theorem Decode_calls (w : World) (A : Option Addr) (c : Nat) (b : List Int) (hC : Kd.C (Kd.int .u8) w A b.length b) (hc : b.length ≤ c) (hl : b.length ≤ 1000000) (hby : Bytes b) (hL : LaidW w) :
    Calls Tryd.prog 19 #[.slice A b.length c] w (DecOut b w) := by
  have hmf : ∀ (fn : Fn) (first cap : Array Value) (w : World), (Instr.makeFunc fn first cap).run Tryd.prog w = .ok (.func fn first cap) w := fun _ _ _ _ => rfl
  obtain ⟨v, n, hv, hn, hlt⟩ := ruv_parts hby
  have hf := bits_Read_f (k := 30) hby (by omega) (by omega)
  rw [hv] at hf
  have HF := Aside0.mk hf
  have HC := Aside0.mk hC
  have HL := Aside0.mk hL
  have HBY := Aside0.mk hby
  have H1 : Aside0 (Sat w ((w.alloc (.cells #[.slice none 0 0] 22)).alloc (.cells #[.int .i64 0] 24)) (Blk w.heap.size #[.slice none 0 0] 22 :: Blk (w.heap.size + 1) #[.int .i64 0] 24 :: [])) := ⟨by
    have h := (((Sat.start w).newBlk #[.slice none 0 0] 22).newBlk #[.int .i64 0] 24).nth 1 rfl
    rw [alloc_size] at h
    exact h⟩
  obtain ⟨i0, hi0, _, hsz, _⟩ := info_parts info5
  have HI := Aside0.mk (And.intro hi0 hsz)
  clear hf hC hL hby HI
  go_enter_defers Tryd.func19, Tryd.ntmps19
  go_upto_region 2 with (fail)
  generalize (w.alloc (.cells #[.slice none 0 0] 22)).alloc (.cells #[.int .i64 0] 24) = w1 at H1 ⊢
  generalize w.heap.size + 1 = g2 at H1 ⊢
  generalize w.heap.size = g1 at H1 ⊢
  go_upto_region 3 with (first | (go_at_call 35; go_loud ((with_reducible refine (bits_ReadUvarint.calls 30 A c b (v : Int) (n : Int) _ (Kd.C_below HC.out H1.out.below) hc HF.out).mono ?_); rintro e w2 ⟨rfl, ⟨⟨m, hm⟩⟩⟩; have H2 := Aside0.mk (H1.out.drewN m); rw [← hm] at H2; clear hm)))
  clear H1 hmf
  by_cases hz : (n : Int) = 0 ∨ 512 < (v : Int)
  · have HD := Aside0.mk (show decP b = ([], 50) by unfold decP; rw [hv]; simp only; rw [if_pos hz])
    clear hv
    have x1 := H2.out.cell 0 (v := .slice none 0 0) rfl
    have x2 := H2.out.free 0
    have hq1 := (H2.out.setBlk 0 (.slice none 0 0)).nth 1 rfl
    have y1 := hq1.cell 0 (v := .int .i64 0) rfl
    have y2 := hq1.free 0
    have hq2 := (hq1.setBlk 0 (.int .i64 50)).nth 1 rfl
    have HQ := Aside0.mk hq2
    clear hq1 hq2
    by_cases hn0 : (n : Int) = 0
    · have d1 : ((n : Int) == 0) = true := by rw [beq_iff_eq]; omega
      clear hz hn0
      go_wp2_with fail
      have k1 := HQ.out.cell 0 (v := .slice none 0 0) rfl
      have k2 := (HQ.out.nth 1 rfl).cell 0 (v := .int .i64 50) rfl
      refine leaves_cons (f := 34) (args := #[.pointer (some ⟨g1, 0, none⟩), .pointer (some ⟨g2, 0, none⟩)]) (by simp) (by simp [go_sem]) ?_
      refine (catch_idle _ _ _).mono ?_
      rintro e u' w'' ⟨rfl, rfl, rfl⟩
      simp [Leaves, settle, results, Tryd.results19, go_sem, k1, k2]
      exact DecOut.bad HD.out rfl HQ.out
    · have d1 : ((n : Int) == 0) = false := by rw [beq_eq_false_iff_ne]; omega
      have d2 : decide (512 < (v : Int)) = true := decide_eq_true (by omega)
      clear hz hn0
      go_wp2_with fail
      have k1 := HQ.out.cell 0 (v := .slice none 0 0) rfl
      have k2 := (HQ.out.nth 1 rfl).cell 0 (v := .int .i64 50) rfl
      refine leaves_cons (f := 34) (args := #[.pointer (some ⟨g1, 0, none⟩), .pointer (some ⟨g2, 0, none⟩)]) (by simp) (by simp [go_sem]) ?_
      refine (catch_idle _ _ _).mono ?_
      rintro e u' w'' ⟨rfl, rfl, rfl⟩
      simp [Leaves, settle, results, Tryd.results19, go_sem, k1, k2]
      exact DecOut.bad HD.out rfl HQ.out
  · have d1 : ((n : Int) == 0) = false := by rw [beq_eq_false_iff_ne]; omega
    have d2 : decide (512 < (v : Int)) = false := decide_eq_false (by omega)
    have e1 : IntKind.i64.wrap (v : Int) = (v : Int) := by rw [IntKind.wrap_i64]; omega
    have hv5 : v ≤ 512 := by omega
    have hDP : decP b = (match pointsP (b.drop n) v with
      | none => ([], 50)
      | some l => if (encT l).2 = 0 ∧ (encT l).1 = b then (l, 0) else ([], 50)) := by unfold decP; rw [hv]; simp only; rw [if_neg hz, Int.toNat_natCast, Int.toNat_natCast]
    have HDP := Aside0.mk hDP
    have cf := cut_from (P := Tryd.prog) 23 5 .i64 Tryd.underlying23 hi0 1 hsz A b.length c (n : Int) (by omega) (by omega)
    simp only [Int.toNat_natCast] at cf
    obtain ⟨A2, hA2⟩ : ∃ A2, A2 = (if c = n then A else (A : Option Addr).map (·.add (n * 1))) := ⟨_, rfl⟩
    rw [← hA2] at cf
    have hCd2 : Kd.C (Kd.int .u8) w A2 (b.drop n).length (b.drop n) := by rw [hA2]; exact Kd.C_drop (m := n) HC.out hn hc
    have HCD := Aside0.mk hCd2
    have HBD : Aside0 (∀ x ∈ b.drop n, 0 ≤ x ∧ x < 256) := ⟨fun x hx => HBY.out x (List.mem_of_mem_drop hx)⟩
    obtain ⟨bd, hbd⟩ : ∃ bd, b.drop n = bd := ⟨_, rfl⟩
    have hbl : bd.length = b.length - n := by rw [← hbd, List.length_drop]
    rw [← hbl] at cf
    rw [hbd] at HCD HBD HDP
    clear hi0 hsz hA2 hCd2 hz hv hDP
    have hbl2 : bd.length ≤ c - n := by omega
    have hbl3 : bd.length < 140737488355328 := by omega
    have hbl4 : bd.length ≤ 1099511627776 := by omega
    clear hbd hbl
    cases hp : pointsP bd v with
    | none =>
      have HD := Aside0.mk (show decP b = ([], 50) by rw [HDP.out, hp])
      clear HDP
      go_wp2_with (first | (go_at_call 36; go_loud ((with_reducible refine (NewReader_calls w w2 _ A2 (c - n) bd (Kd.C_below HCD.out H2.out.below) hbl2 hbl3 H2.out).mono ?_); rintro e w3 ⟨gr, rfl, hs⟩; have H3 := Aside0.mk hs; clear hs)) | (go_at_call 37; go_loud ((with_reducible refine (dpoints_none hp hv5 hbl4 HBD.out HL.out H3.out).mono ?_); rintro e w4 ⟨rfl, hs⟩; have H4 := Aside0.mk hs; clear hs)))
      show Leaves Tryd.prog Tryd.f19 _ _ _ (.panicking [wrongE]) _
      refine leaves_cons (f := 34) (args := #[.pointer (some ⟨g1, 0, none⟩), .pointer (some ⟨g2, 0, none⟩)]) (by simp) (by simp [go_sem]) ?_
      refine (catch_panicking g1 g2 _ _ _ _ H4.out).mono ?_
      rintro e u' w'' ⟨rfl, rfl, hs⟩
      have k1 := hs.cell 0 (v := .slice none 0 0) rfl
      have k2 := (hs.nth 1 rfl).cell 0 (v := .int .i64 50) rfl
      simp [Leaves, settle, results, wrongE, Tryd.results19, go_sem, k1, k2]
      exact DecOut.bad HD.out rfl hs
    | some l =>
      have HLL := Aside0.mk (show l.length ≤ 1000000 by have := pointsP_length hp; omega)
      have HDQ := Aside0.mk (show decP b = if (encT l).2 = 0 ∧ (encT l).1 = b then (l, 0) else ([], 50) by rw [HDP.out, hp])
      obtain ⟨r1, r2, hE⟩ : ∃ r1 r2, encT l = (r1, r2) := ⟨_, _, rfl⟩
      have HR1 := Aside0.mk (show Bytes r1 by have := encT_bytes l; rw [hE] at this; exact this)
      rw [hE] at HDQ
      have HE := Aside0.mk hE
      clear HDP hE
      go_upto_region 6 with (first | (go_at_call 36; go_loud ((with_reducible refine (NewReader_calls w w2 _ A2 (c - n) bd (Kd.C_below HCD.out H2.out.below) hbl2 hbl3 H2.out).mono ?_); rintro e w3 ⟨gr, rfl, hs⟩; have H3 := Aside0.mk hs; clear hs)) | (go_at_call 37; go_loud ((with_reducible refine (dpoints_some hp hv5 hbl4 HBD.out HL.out H3.out).mono ?_); rintro e w4 ⟨A3, c3, rfl, hok, hs⟩; have HOK := Aside0.mk hok; have x1 := (hs.nth 1 rfl).cell 0 (v := .slice none 0 0) rfl; have x2 := (hs.nth 1 rfl).free 0; have H4 := Aside0.mk ((hs.nth 1 rfl).setBlk 0 (.slice A3 l.length c3)); clear hs hok)))
      generalize w4.setCell ⟨g1, 0, none⟩ (.slice A3 l.length c3) = w5 at H4 ⊢
      have z1 := H4.out.cell 0 (v := .slice A3 l.length c3) rfl
      have hr3 := (H4.out.nth 1 rfl).rowLen
      have HFE := Aside0.mk (show tsz_Encode.f l = some (r1, r2) by rw [tsz_Encode.f_eq HLL.out HOK.out, HE.out])
      go_upto_region 7 with (first | (go_at_call 11; go_loud ((with_reducible refine (tsz_Encode.calls A3 c3 l r1 r2 w5 (H4.out.nth 1 rfl).rowC hr3.2 HFE.out (LaidW.below HL.out H4.out.below)).mono ?_); rintro e w6 ⟨v4, rfl, hr, hb⟩; obtain ⟨A4, c4, rfl⟩ := Kd.R_slice hr; have H6 := Aside0.mk (H4.out.made hb hr); clear hr hb)))
      have hr4 := H6.out.rowLen.2
      clear z1 H4
      by_cases he : r2 = 0
      · subst he
        by_cases hb : r1 = b
        · have HD := Aside0.mk (show decP b = (l, 0) by rw [HDQ.out, if_pos ⟨rfl, hb⟩])
          have HEQ := Aside0.mk (show bytes_Equal.f b r1 = some true by unfold bytes_Equal.f; rw [hb, beq_self_eq_true])
          clear HDQ hb
          go_wp2_with (first | (go_at_call 38; go_loud ((with_reducible refine (bytes_Equal.calls A c b A4 c4 r1 _ w6 (Kd.C_below HC.out H6.out.below) hc H6.out.rowC hr4 HEQ.out).mono ?_); rintro e w7 ⟨rfl, ⟨⟨m7, hm7⟩⟩⟩; have H7 := Aside0.mk (H6.out.drewN m7); rw [← hm7] at H7; clear hm7; have x1 := (H7.out.nth 1 rfl).cell 0 (v := .slice A3 l.length c3) rfl; have x2 := (H7.out.nth 1 rfl).free 0; have hq1 := (((H7.out.nth 1 rfl).setBlk 0 (.slice A3 l.length c3)).nth 3 rfl); have y1 := hq1.cell 0 (v := .int .i64 0) rfl; have y2 := hq1.free 0; have HQ := Aside0.mk (hq1.setBlk 0 (.int .i64 0)); clear hq1)))
          have k1 := (HQ.out.nth 1 rfl).cell 0 (v := .slice A3 l.length c3) rfl
          have k2 := ((HQ.out.nth 1 rfl).nth 1 rfl).cell 0 (v := .int .i64 0) rfl
          refine leaves_cons (f := 34) (args := #[.pointer (some ⟨g1, 0, none⟩), .pointer (some ⟨g2, 0, none⟩)]) (by simp) (by simp [go_sem]) ?_
          refine (catch_idle _ _ _).mono ?_
          rintro e u' w'' ⟨rfl, rfl, rfl⟩
          simp [Leaves, settle, results, Tryd.results19, go_sem, k1, k2]
          exact ⟨_, by rw [HD.out], by rw [HD.out]; exact drop3 (HQ.out.nth 3 rfl)⟩
        · have HD := Aside0.mk (show decP b = ([], 50) by rw [HDQ.out, if_neg (fun h => hb h.2)])
          have HEQ := Aside0.mk (show bytes_Equal.f b r1 = some false by
            unfold bytes_Equal.f
            rw [show ((strOfNums b).toList == (strOfNums r1).toList) = false from beq_eq_false_iff_ne.2 fun e => hb (Go.Proofs.YtmnlbedgkjnodaaDoor.UvN.str_inj' HR1.out HBY.out e.symm)])
          clear HDQ hb
          go_wp2_with (first | (go_at_call 38; go_loud ((with_reducible refine (bytes_Equal.calls A c b A4 c4 r1 _ w6 (Kd.C_below HC.out H6.out.below) hc H6.out.rowC hr4 HEQ.out).mono ?_); rintro e w7 ⟨rfl, ⟨⟨m7, hm7⟩⟩⟩; have H7 := Aside0.mk (H6.out.drewN m7); rw [← hm7] at H7; clear hm7; have x1 := (H7.out.nth 1 rfl).cell 0 (v := .slice A3 l.length c3) rfl; have x2 := (H7.out.nth 1 rfl).free 0; have hq1 := (((H7.out.nth 1 rfl).setBlk 0 (.slice none 0 0)).nth 3 rfl); have y1 := hq1.cell 0 (v := .int .i64 0) rfl; have y2 := hq1.free 0; have HQ := Aside0.mk (hq1.setBlk 0 (.int .i64 50)); clear hq1)))
          have k1 := (HQ.out.nth 1 rfl).cell 0 (v := .slice none 0 0) rfl
          have k2 := ((HQ.out.nth 1 rfl).nth 1 rfl).cell 0 (v := .int .i64 50) rfl
          refine leaves_cons (f := 34) (args := #[.pointer (some ⟨g1, 0, none⟩), .pointer (some ⟨g2, 0, none⟩)]) (by simp) (by simp [go_sem]) ?_
          refine (catch_idle _ _ _).mono ?_
          rintro e u' w'' ⟨rfl, rfl, rfl⟩
          simp [Leaves, settle, results, Tryd.results19, go_sem, k1, k2]
          exact DecOut.bad HD.out rfl HQ.out
      · have HD := Aside0.mk (show decP b = ([], 50) by rw [HDQ.out, if_neg (fun h => he h.1)])
        have d3 : (r2 != 0) = true := by rw [bne_iff_ne]; exact he
        have d4 : (r2 == 0) = false := by rw [beq_eq_false_iff_ne]; exact he
        have x1 := (H6.out.nth 1 rfl).cell 0 (v := .slice A3 l.length c3) rfl; have x2 := (H6.out.nth 1 rfl).free 0; have hq1 := (((H6.out.nth 1 rfl).setBlk 0 (.slice none 0 0)).nth 3 rfl); have y1 := hq1.cell 0 (v := .int .i64 0) rfl; have y2 := hq1.free 0; have HQ := Aside0.mk (hq1.setBlk 0 (.int .i64 50)); clear hq1
        clear HDQ he
        go_wp2_with fail
        have k1 := (HQ.out.nth 1 rfl).cell 0 (v := .slice none 0 0) rfl
        have k2 := ((HQ.out.nth 1 rfl).nth 1 rfl).cell 0 (v := .int .i64 50) rfl
        refine leaves_cons (f := 34) (args := #[.pointer (some ⟨g1, 0, none⟩), .pointer (some ⟨g2, 0, none⟩)]) (by simp) (by simp [go_sem]) ?_
        refine (catch_idle _ _ _).mono ?_
        rintro e u' w'' ⟨rfl, rfl, rfl⟩
        simp [Leaves, settle, results, Tryd.results19, go_sem, k1, k2]
        exact DecOut.bad HD.out rfl HQ.out
end Go.Proofs.YtmnlbedgkjnodaaDoor.TdW
namespace Go.Proofs.YtmnlbedgkjnodaaDoor.RfW
open Go.RowKit Go.Proofs.YtmnlbedgkjnodaaDoorW.PrintWords Go.Proofs.YtmnlbedgkjnodaaDoorW.PrintLast Go.Proofs.YtmnlbedgkjnodaaDoorW.PrintMore Go.Proofs.YtmnlbedgkjnodaaDoor.QB Go.Proofs.YtmnlbedgkjnodaaDoor.Sl Go.Proofs.YtmnlbedgkjnodaaDoor.Bt Go.Proofs.YtmnlbedgkjnodaaDoor.BtR Go.Proofs.YtmnlbedgkjnodaaDoor.WrW Go.Proofs.YtmnlbedgkjnodaaDoor.RdW Go.Proofs.YtmnlbedgkjnodaaDoor.TzP Go.Proofs.YtmnlbedgkjnodaaDoor.TzW Go.Proofs.YtmnlbedgkjnodaaDoor.TeP Go.Proofs.YtmnlbedgkjnodaaDoor.TeW Go.Proofs.YtmnlbedgkjnodaaDoor.TdP Go.Proofs.YtmnlbedgkjnodaaDoor.Uv Go.Proofs.YtmnlbedgkjnodaaDoor.UvP
attribute [local go_sem] max2_int min2_int max_two min_two
def roundR (s : RS) (l : List Pt) (d : Int) (vw sw : Win) : (Pt × Int × Win × Win) × RS :=
  if l.length = 0 then
    ((⟨wrap64 ((getR s 64).1 : Int), ((getR (getR s 64).2 64).1 : Int), ((getR (getR (getR s 64).2 64).2 64).1 : Int)⟩, d, vw, sw), (getR (getR (getR s 64).2 64).2 64).2)
  else ((⟨wrap64 ((l.getD (l.length - 1) zp).f0 + wrap64 (d + (timeR s).1)), (((l.getD (l.length - 1) zp).f1.toNat ^^^ (valueR (timeR s).2 vw).1.1 : Nat) : Int), (((l.getD (l.length - 1) zp).f2.toNat ^^^ (valueR (valueR (timeR s).2 vw).2 sw).1.1 : Nat) : Int)⟩,
    wrap64 (d + (timeR s).1), (valueR (timeR s).2 vw).1.2, (valueR (valueR (timeR s).2 vw).2 sw).1.2), (valueR (valueR (timeR s).2 vw).2 sw).2)
theorem winC_form (x : Win) : ∃ c0 c1 c2, winC x = #[.bool c0, .int .i64 c1, .int .i64 c2] := by
  cases x with
  | none => exact ⟨_, _, _, rfl⟩
  | some p => exact ⟨_, _, _, rfl⟩
theorem pt_cells {W : World} {ad : Addr} {l : List Pt} (hC : Kd.C k33 W (some ad) l.length l) {j : Nat} (hj : j < l.length) {T V S : Int} (hq : l.getD j zp = ⟨T, V, S⟩) :
    W.cell? (ad.add (j * 3)) = some (.int .i64 T) ∧ W.cell? ⟨(ad.add (j * 3)).block, (ad.add (j * 3)).off + 1, none⟩ = some (.int .u64 V) ∧ W.cell? ⟨(ad.add (j * 3)).block, (ad.add (j * 3)).off + 2, none⟩ = some (.int .u64 S) := by
  obtain ⟨ad2, h, c0, c1, c2⟩ := at_T33 hC (j : Int) (by omega) (by omega)
  cases h
  rw [rdT] at c0 c1 c2
  rw [Int.toNat_natCast] at c0 c1 c2
  rw [hq] at c0 c1 c2
  exact ⟨c0, c1, c2⟩
def goR : Nat → List Pt → Int → Win → Win → RS → List Pt × RS
  | 0, l, _, _, _, s => (l, s)
  | m + 1, l, d, vw, sw, s => if s.2 = true then (l, s) else goR m (l ++ [(roundR s l d vw sw).1.1]) (roundR s l d vw sw).1.2.1 (roundR s l d vw sw).1.2.2.1 (roundR s l d vw sw).1.2.2.2 (roundR s l d vw sw).2
theorem wrap64_range (x : Int) : -9223372036854775808 ≤ wrap64 x ∧ wrap64 x < 9223372036854775808 := by unfold wrap64; omega
theorem timeR_fine {s : RS} (h : FineS s) : FineS (timeR s).2 := by
  unfold timeR
  split
  · exact getR_fine h _
  split
  · exact getR_fine (getR_fine (getR_fine h _) _) _
  split
  · exact getR_fine (getR_fine (getR_fine (getR_fine h _) _) _) _
  split
  · exact getR_fine (getR_fine (getR_fine (getR_fine (getR_fine h _) _) _) _) _
  · exact getR_fine (getR_fine (getR_fine (getR_fine (getR_fine h _) _) _) _) _
theorem heldR_ok {s : RS} (h : FineS s) {x : Win} (hx : x.Ok) : (heldR s x).1.1 < 18446744073709551616 ∧ (heldR s x).1.2.Ok ∧ FineS (heldR s x).2 := by
  cases x with
  | none => exact ⟨by show (0 : Nat) < _; omega, Win.ok_none, h⟩
  | some p => exact ⟨Nat.mod_lt _ (by omega), hx, getR_fine h _⟩
theorem valueR_ok {s : RS} (h : FineS s) {x : Win} (hx : x.Ok) : (valueR s x).1.1 < 18446744073709551616 ∧ (valueR s x).1.2.Ok ∧ FineS (valueR s x).2 := by
  unfold valueR
  split
  · exact ⟨by show (0 : Nat) < _; omega, hx, getR_fine h _⟩
  split
  · split
    · exact ⟨by show (0 : Nat) < _; omega, Win.ok_none, getR_fine (getR_fine (getR_fine (getR_fine h _) _) _) _⟩
    · rename_i hle
      refine heldR_ok (getR_fine (getR_fine (getR_fine (getR_fine h _) _) _) _) ?_
      intro p hp
      cases hp
      have h5 : (getR (getR (getR s 1).2 1).2 5).1 < 32 := getR_lt (getR_fine (getR_fine h _) _) 5
      exact ⟨by simp only; omega, by simp only; omega⟩
  · exact heldR_ok (getR_fine (getR_fine h _) _) hx
theorem goR_zero (l : List Pt) (d : Int) (vw sw : Win) (s : RS) : goR 0 l d vw sw s = (l, s) := rfl
theorem goR_bad (m : Nat) (l : List Pt) (d : Int) (vw sw : Win) (ls : List Int) : goR m l d vw sw (ls, true) = (l, (ls, true)) := by
  cases m with
  | zero => rfl
  | succ m => rw [goR, if_pos rfl]
theorem goR_more (m : Nat) (l : List Pt) (d : Int) (vw sw : Win) (ls : List Int) {p : Pt} {d2 : Int} {vw2 sw2 : Win} {s2 : RS} (h : roundR (ls, false) l d vw sw = ((p, d2, vw2, sw2), s2)) : goR (m + 1) l d vw sw (ls, false) = goR m (l ++ [p]) d2 vw2 sw2 s2 := by rw [goR, if_neg (by simp), h]
def seenR (b : List Int) : RS := (unpk ((b.take ((ruv b).2.toNat + 16384)).drop (ruv b).2.toNat), false)
def refD (b : List Int) : List Pt × Int :=
  if (ruv b).2 = 0 ∨ 512 < (ruv b).1 then ([], 50) else
  if (goR (ruv b).1.toNat [] 0 none none (seenR b)).2.2 = false ∧ (encT (goR (ruv b).1.toNat [] 0 none none (seenR b)).1).2 = 0 ∧ (encT (goR (ruv b).1.toNat [] 0 none none (seenR b)).1).1 = b then ((goR (ruv b).1.toNat [] 0 none none (seenR b)).1, 0) else ([], 50)
def RefOut (b : List Int) (w : World) (e : Ending) (w' : World) : Prop := ∃ v, e = .returned (.tuple #[v, .int .i64 (refD b).2]) ∧ Sat w w' (Row k33 33 v (refD b).1 :: [])
theorem RefOut.bad {b : List Int} {w w' : World} {e : Ending} {L : List Asn} (hd : refD b = ([], 50)) (he : e = .returned (.tuple #[.slice none 0 0, .int .i64 50])) (hs : Sat w w' L) : RefOut b w e w' := by
  refine ⟨.slice none 0 0, by rw [hd]; exact he, ?_⟩
  rw [hd]
  exact Sat.nilRow _ _ ⟨hs.below, trivial⟩
theorem take_min (b : List Int) (m : Nat) : b.take (min b.length m) = b.take m := by
  by_cases h : m ≤ b.length
  · rw [Nat.min_eq_right h]
  · rw [Nat.min_eq_left (by omega), List.take_of_length_le (Nat.le_refl _), List.take_of_length_le (by omega)]
set_option maxHeartbeats 16000000 in
set_option maxRecDepth 100000 in
theorem ref_Decode_calls (w : World) (A : Option Addr) (c : Nat) (b : List Int) (hC : Kd.C (Kd.int .u8) w A b.length b) (hc : b.length ≤ c) (hl : b.length ≤ 1000000) (hby : Bytes b) :
    Calls Tryd.prog 20 #[.slice A b.length c] w (RefOut b w) := by
  obtain ⟨v, n, hv, hn, hlt⟩ := TdW.ruv_parts hby
  have HF := Aside0.mk (show thermographref03_ReadUvarint.f 0 b = some ((v : Int), (n : Int)) by rw [thermographref03_ReadUvarint.f_eq hby (by omega), hv])
  have HC := Aside0.mk hC
  have HBY := Aside0.mk hby
  have H0 := Aside0.mk (Sat.start w)
  obtain ⟨i0, hi0, _, hsz, _⟩ := info_parts info5
  go_enter Tryd.func20, Tryd.ntmps20
  go_upto_region 2 with (first | (go_at_call 39; go_loud ((with_reducible refine (thermographref03_ReadUvarint.calls 0 A c b (v : Int) (n : Int) _ HC.out hc HF.out).mono ?_); rintro e w1 ⟨rfl, hb⟩; have H1 := Aside0.mk (H0.out.step hb); clear hb)))
  clear H0 hC hby
  by_cases hz : (n : Int) = 0 ∨ 512 < (v : Int)
  · have HD := Aside0.mk (show refD b = ([], 50) by unfold refD; rw [hv]; simp only; rw [if_pos hz])
    clear hv
    by_cases hn0 : (n : Int) = 0
    · have d1 : ((n : Int) == 0) = true := by rw [beq_iff_eq]; omega
      clear hz hn0
      go_wp2
      go_ret2
      exact RefOut.bad HD.out rfl H1.out
    · have d1 : ((n : Int) == 0) = false := by rw [beq_eq_false_iff_ne]; omega
      have d2 : decide (512 < (v : Int)) = true := decide_eq_true (by omega)
      clear hz hn0
      go_wp2
      go_ret2
      exact RefOut.bad HD.out rfl H1.out
  have d1 : ((n : Int) == 0) = false := by rw [beq_eq_false_iff_ne]; omega
  have d2 : decide (512 < (v : Int)) = false := decide_eq_false (by omega)
  have e1 : IntKind.i64.wrap (v : Int) = (v : Int) := by rw [IntKind.wrap_i64]; omega
  have hv5 : v ≤ 512 := by omega
  have HDP := Aside0.mk (show refD b = if (goR v [] 0 none none (seenR b)).2.2 = false ∧ (encT (goR v [] 0 none none (seenR b)).1).2 = 0 ∧ (encT (goR v [] 0 none none (seenR b)).1).1 = b then ((goR v [] 0 none none (seenR b)).1, 0) else ([], 50) by
    unfold refD
    rw [hv]
    simp only
    rw [if_neg hz, Int.toNat_natCast])
  have HSE := Aside0.mk (show seenR b = (unpk ((b.take (n + 16384)).drop n), false) by unfold seenR; rw [hv]; simp only [Int.toNat_natCast])
  obtain ⟨m, hm⟩ : ∃ m, min b.length (n + 16384) = m := ⟨_, rfl⟩
  have e2 : IntKind.i64.wrap ((n : Int) + 16384) = (n : Int) + 16384 := by rw [IntKind.wrap_i64]; omega
  have e3 : (if (n : Int) + 16384 < (b.length : Int) then (n : Int) + 16384 else (b.length : Int)) = (m : Int) := by split <;> omega
  have hnm : n ≤ m := by omega
  have hmb : m ≤ b.length := by omega
  have cf := cut_mid (P := Tryd.prog) 23 5 .i64 .i64 Tryd.underlying23 hi0 1 hsz A b.length c (n : Int) (m : Int) (by omega) (by omega) (by omega) hc
  simp only [Int.toNat_natCast] at cf
  obtain ⟨A2, hA2⟩ : ∃ A2, A2 = (if c = n then A else (A : Option Addr).map (·.add (n * 1))) := ⟨_, rfl⟩
  rw [← hA2] at cf
  obtain ⟨bd, hbd⟩ : ∃ bd, (b.take m).drop n = bd := ⟨_, rfl⟩
  have hbm : (b.take m).length = m := by rw [List.length_take]; omega
  have hbl : bd.length = m - n := by rw [← hbd, List.length_drop, hbm]
  have HCD := Aside0.mk (show Kd.C (Kd.int .u8) w A2 bd.length bd by
    rw [hA2, ← hbd]
    have h1 := Kd.C_take (m := m) HC.out hmb
    have h2 := Kd.C_drop (m := n) (c := c) h1 (by rw [hbm]; exact hnm) (by rw [hbm]; omega)
    exact h2)
  have HBD := Aside0.mk (show ∀ x ∈ bd, 0 ≤ x ∧ x < 256 by
    intro x hx
    rw [← hbd] at hx
    exact HBY.out x (List.mem_of_mem_take (List.mem_of_mem_drop hx)))
  have HSR := Aside0.mk (show seenR b = (unpk bd, false) by rw [HSE.out, ← hbd, ← hm, take_min])
  rw [← hbl] at cf
  have hbl2 : bd.length ≤ c - n := by omega
  have hbl3 : bd.length ≤ 16384 := by omega
  have HOF := Aside0.mk (show thermographref03_Of.f 20000 bd = some (unpk bd) from ref_Of_f HBD.out (by omega) (by omega))
  clear hbl hbm hbd hA2 hm hnm hmb hz hi0 hsz HSE
  obtain ⟨lu, hlu⟩ : ∃ lu, unpk bd = lu := ⟨_, rfl⟩
  have HFI := Aside0.mk (show FineS (lu, false) by rw [← hlu]; exact ⟨unpk_isBits bd, by simp only [unpk_length]; omega⟩)
  rw [hlu] at HOF HSR
  clear hlu
  go_upto_region 5 with (first | (go_at_call 40; go_loud ((with_reducible refine (thermographref03_Of.calls 20000 A2 (c - n) bd lu _ (Kd.C_below HCD.out H1.out.below) hbl2 HOF.out).mono ?_); rintro e w2 ⟨v2, rfl, hr, hb⟩; obtain ⟨Ao, co, rfl⟩ := Kd.R_slice hr; have H2 := Aside0.mk (H1.out.made hb hr).rowQ; clear hr hb)))
  have H3 : Aside0 (Sat w (w2.alloc (.cells #[.slice Ao lu.length co, .bool false] 76)) (Rb w2.heap.size lu false :: [])) := ⟨Sat.any (.slice Ao lu.length co) (Sat.closed (H2.out.newBlk #[.slice Ao lu.length co, .bool false] 76))⟩
  generalize w2.alloc (.cells #[.slice Ao lu.length co, .bool false] 76) = w3 at H3 ⊢
  generalize w2.heap.size = g at H3 ⊢
  clear H2 H1 cf e2 e3 d1 d2
  go_upto_region 6 with (fail)
  have H4 := Aside0.mk (Sat.emptyRow k33 33 H3.out)
  generalize w3.alloc (.cells #[] 33) = w4 at H4 ⊢
  generalize w3.heap.size = gl at H4 ⊢
  clear H3
  go_upto_region 7 with (fail)
  have H5 : Aside0 (Sat w ((w4.alloc (.cells #[.bool false, .int .i64 0, .int .i64 0] 55)).alloc (.cells #[.bool false, .int .i64 0, .int .i64 0] 55)) (Rb g lu false :: Row k33 33 (.slice (some ⟨gl, 0, none⟩) 0 0) [] :: Blk w4.heap.size #[.bool false, .int .i64 0, .int .i64 0] 55 :: Blk (w4.heap.size + 1) #[.bool false, .int .i64 0, .int .i64 0] 55 :: [])) := ⟨by
    have h := ((H4.out.newBlk #[.bool false, .int .i64 0, .int .i64 0] 55).newBlk #[.bool false, .int .i64 0, .int .i64 0] 55)
    rw [alloc_size] at h
    exact ((h.nth 1 rfl).nth 2 rfl).nth 3 rfl⟩
  go_wp2
  generalize (w4.alloc (.cells #[.bool false, .int .i64 0, .int .i64 0] 55)).alloc (.cells #[.bool false, .int .i64 0, .int .i64 0] 55) = w5 at H5 ⊢
  generalize w4.heap.size + 1 = g9 at H5 ⊢
  generalize w4.heap.size = g8 at H5 ⊢
  clear H4
  go_loopw [7, 10, 11] (fun s7 v10 v11 wr => ∃ (i : Nat) (s : RS) (l : List Pt) (d : Int) (vw sw : Win) (v7 : Value), s7 = v7 ∧ i ≤ v ∧ Aside0 (l.length = i) ∧ v11 = .int .i64 i ∧ v10 = .int .i64 d ∧ (-9223372036854775808 ≤ d ∧ d < 9223372036854775808) ∧ Aside0 (FineS s) ∧ Aside0 (goR v [] 0 none none (lu, false) = goR (v - i) l d vw sw s) ∧ Aside0 vw.Ok ∧ Aside0 sw.Ok ∧ Aside0 (OkL l) ∧ Aside0 (Sat w wr (Rb g s.1 s.2 :: Row k33 33 v7 l :: Blk g8 (winC vw) 55 :: Blk g9 (winC sw) 55 :: []))) (fun _ _ v11 _ => v - (intOf v11).toNat)
  case atStart => exact ⟨0, (lu, false), [], 0, none, none, _, rfl, by omega, ⟨rfl⟩, rfl, rfl, by omega, HFI, ⟨rfl⟩, ⟨Win.ok_none⟩, ⟨Win.ok_none⟩, ⟨fun p hp => by cases hp⟩, H5⟩
  case round =>
    obtain ⟨i, ⟨ls, bad⟩, l, d, vw, sw, v7, hvl, hi, HLI, rfl, rfl, hd, HFS, HG, HVO, HSO, HOK, HR⟩ := hrel
    replace hvl := hvl.symm
    subst hvl
    clear H5 HFI
    simp only at HR
    obtain ⟨A5, cap, hve, hcap, hC5⟩ := (HR.out.nth 1 rfl).rowSlice
    subst hve
    clear hC5
    cases bad with
    | true =>
      by_cases hlt : i < v
      · have d1 : decide ((i : Int) < (v : Int)) = true := decide_eq_true (by omega)
        have d2 : decide (i < v) = true := decide_eq_true hlt
        have H := Aside0.mk (show Sat w wr (Row k33 33 (.slice A5 l.length cap) l :: Rb g ls true :: Blk g8 (winC vw) 55 :: Blk g9 (winC sw) 55 :: []) from HR.out.nth 1 rfl)
        obtain ⟨vb0, hvb0⟩ := HR.out.some_
        have u0 := hvb0.opened.cell 1 (v := .bool true) rfl
        clear hvb0 HR
        obtain ⟨r1, r2, hE⟩ : ∃ r1 r2, encT l = (r1, r2) := ⟨_, _, rfl⟩
        have HR1 := Aside0.mk (show Bytes r1 by have := TdW.encT_bytes l; rw [hE] at this; exact this)
        have HEF := Aside0.mk (show thermographref05_Encode.f 400000 l = some (r1, r2) by rw [TeE.ref_Encode_f (by have := HLI.out; omega) HOK.out (by have := HLI.out; omega) (by omega), hE])
        have HD := Aside0.mk (show refD b = ([], 50) by rw [HDP.out, HSR.out, HG.out, goR_bad, if_neg (fun h => Bool.noConfusion h.1)])
        clear hE HDP HG
        go_wp2_with (first | (go_at_call 14; go_loud ((with_reducible refine (thermographref05_Encode.calls 400000 A5 cap l _ _ wr H.out.rowC hcap HEF.out).mono ?_); rintro e w6 ⟨v6, rfl, hr, hb⟩; obtain ⟨A6, c6, rfl⟩ := Kd.R_slice hr; have H6 := Aside0.mk (H.out.made hb hr); clear hr hb; obtain ⟨vb, hvb⟩ := (H6.out.nth 2 rfl).some_; have u1 := hvb.opened.cell 1 (v := .bool true) rfl; clear hvb)))
        go_ret2
        exact RefOut.bad HD.out rfl H6.out
      · have d1 : decide ((i : Int) < (v : Int)) = false := decide_eq_false (by omega)
        have d2 : decide (i < v) = false := decide_eq_false hlt
        have H := Aside0.mk (show Sat w wr (Row k33 33 (.slice A5 l.length cap) l :: Rb g ls true :: Blk g8 (winC vw) 55 :: Blk g9 (winC sw) 55 :: []) from HR.out.nth 1 rfl)
        obtain ⟨vb0, hvb0⟩ := HR.out.some_
        have u0 := hvb0.opened.cell 1 (v := .bool true) rfl
        clear hvb0 HR
        obtain ⟨r1, r2, hE⟩ : ∃ r1 r2, encT l = (r1, r2) := ⟨_, _, rfl⟩
        have HR1 := Aside0.mk (show Bytes r1 by have := TdW.encT_bytes l; rw [hE] at this; exact this)
        have HEF := Aside0.mk (show thermographref05_Encode.f 400000 l = some (r1, r2) by rw [TeE.ref_Encode_f (by have := HLI.out; omega) HOK.out (by have := HLI.out; omega) (by omega), hE])
        have HD := Aside0.mk (show refD b = ([], 50) by rw [HDP.out, HSR.out, HG.out, goR_bad, if_neg (fun h => Bool.noConfusion h.1)])
        clear hE HDP HG
        go_wp2_with (first | (go_at_call 14; go_loud ((with_reducible refine (thermographref05_Encode.calls 400000 A5 cap l _ _ wr H.out.rowC hcap HEF.out).mono ?_); rintro e w6 ⟨v6, rfl, hr, hb⟩; obtain ⟨A6, c6, rfl⟩ := Kd.R_slice hr; have H6 := Aside0.mk (H.out.made hb hr); clear hr hb; obtain ⟨vb, hvb⟩ := (H6.out.nth 2 rfl).some_; have u1 := hvb.opened.cell 1 (v := .bool true) rfl; clear hvb)))
        go_ret2
        exact RefOut.bad HD.out rfl H6.out
    | false =>
      by_cases hlt : i < v
      · have d1 : decide ((i : Int) < (v : Int)) = true := decide_eq_true (by omega)
        have d2 : decide (i < v) = true := decide_eq_true hlt
        obtain ⟨vb0, hvb0⟩ := HR.out.some_
        have u0 := hvb0.opened.cell 1 (v := .bool false) rfl
        clear hvb0
        obtain ⟨m', hm'⟩ : ∃ m', v - i = m' + 1 := ⟨v - i - 1, by omega⟩
        have HM := Aside0.mk hm'
        clear hm'
        go_upto_region 13 with (fail)
        have H : Aside0 (Sat w (wr.alloc (.cells #[.int .i64 0, .int .u64 0, .int .u64 0] 33)) (Rb g ls false :: Blk wr.heap.size #[.int .i64 0, .int .u64 0, .int .u64 0] 33 :: Row k33 33 (.slice A5 l.length cap) l :: Blk g8 (winC vw) 55 :: Blk g9 (winC sw) 55 :: [])) := ⟨(HR.out.newBlk #[.int .i64 0, .int .u64 0, .int .u64 0] 33).nth 1 rfl⟩
        generalize wr.alloc (.cells #[.int .i64 0, .int .u64 0, .int .u64 0] 33) = wp at H ⊢
        generalize wr.heap.size = gp at H ⊢
        clear HR u0
        by_cases hi0 : i = 0
        · have d3 : ((i : Int) == 0) = true := by rw [beq_iff_eq]; omega
          have HL0 := Aside0.mk (show l.length = 0 by rw [HLI.out]; exact hi0)
          have HI0 := Aside0.mk hi0
          clear hi0
          obtain ⟨t, sa1, h1⟩ := getR_named (ls, false) 64
          obtain ⟨vn, sa2, h2⟩ := getR_named sa1 64
          obtain ⟨sn, sa3, h3⟩ := getR_named sa2 64
          have f1 := getR_fine HFS.out 64
          rw [h1] at f1
          have f2 := getR_fine f1 64
          rw [h2] at f2
          have f3 := getR_fine f2 64
          rw [h3] at f3
          have l2 : vn < 18446744073709551616 := by have := getR_lt f1 64; rw [h2] at this; exact this
          have l3 : sn < 18446744073709551616 := by have := getR_lt f2 64; rw [h3] at this; exact this
          simp only at f1 f2 f3
          obtain ⟨tt, htt⟩ : ∃ tt, wrap64 (t : Int) = tt := ⟨_, rfl⟩
          have htr := wrap64_range (t : Int)
          rw [htt] at htr
          have e5 : IntKind.i64.wrap (t : Int) = tt := by
            rw [← htt]
            generalize (t : Int) = z
            rw [IntKind.wrap_i64]
            unfold wrap64
            omega
          have HRD := Aside0.mk (show roundR (ls, false) l d vw sw = ((⟨tt, (vn : Int), (sn : Int)⟩, d, vw, sw), sa3) by
            unfold roundR
            rw [if_pos HL0.out]
            simp only [h1, h2, h3, htt])
          have F1 := Aside0.mk f1
          have F2 := Aside0.mk f2
          have F3 := Aside0.mk f3
          have R1 := Aside0.mk h1
          have R2 := Aside0.mk h2
          have R3 := Aside0.mk h3
          have L2 := Aside0.mk l2
          have L3 := Aside0.mk l3
          have HTR := Aside0.mk htr
          clear f1 f2 f3 h1 h2 h3 l2 l3 htt htr
          go_upto_region 22 with (first | (go_at_call 41; go_loud ((first | (with_reducible refine (get_eq R1.out (by omega) (by omega) HFS.out H.out).mono ?_) | (with_reducible refine (get_eq R2.out (by omega) (by omega) F1.out H.out).mono ?_) | (with_reducible refine (get_eq R3.out (by omega) (by omega) F2.out H.out).mono ?_)); rintro e w1 ⟨rfl, hs⟩; clear H; have H := Aside0.mk hs; (try clear c0); (try clear c1); (try clear c2); (try clear c3); (try clear c4); (try clear c5); have c0 := (hs.nth 1 rfl).cell 0 (v := .int .i64 0) rfl; have c1 := (hs.nth 1 rfl).cell 1 (v := .int .u64 0) rfl; have c2 := (hs.nth 1 rfl).cell 2 (v := .int .u64 0) rfl; have c3 := (hs.nth 1 rfl).free 0; have c4 := (hs.nth 1 rfl).free 1; have c5 := (hs.nth 1 rfl).free 2; clear hs)))
          have H6 : Aside0 (Sat w (((w1.setCell ⟨gp, 0, none⟩ (.int .i64 tt)).setCell ⟨gp, 1, none⟩ (.int .u64 vn)).setCell ⟨gp, 2, none⟩ (.int .u64 sn)) (Rb g sa3.1 sa3.2 :: Blk gp #[.int .i64 tt, .int .u64 vn, .int .u64 sn] 33 :: Row k33 33 (.slice A5 l.length cap) l :: Blk g8 (winC vw) 55 :: Blk g9 (winC sw) 55 :: [])) := ⟨((((H.out.nth 1 rfl).setBlk 0 (.int .i64 tt)).setBlk 1 (.int .u64 vn)).setBlk 2 (.int .u64 sn)).nth 1 rfl⟩
          clear c0 c1 c2 c3 c4 c5
          generalize ((w1.setCell ⟨gp, 0, none⟩ (.int .i64 tt)).setCell ⟨gp, 1, none⟩ (.int .u64 vn)).setCell ⟨gp, 2, none⟩ (.int .u64 sn) = w7 at H6 ⊢
          clear H
          have k0 := (H6.out.nth 1 rfl).cell 0 (v := .int .i64 tt) rfl
          have k1 := (H6.out.nth 1 rfl).cell 1 (v := .int .u64 vn) rfl
          have k2 := (H6.out.nth 1 rfl).cell 2 (v := .int .u64 sn) rfl
          go_wp2_with (first | (at_builtin; go_loud (refine Sat.append k33 rfl _ _ 22 33 (.agg #[.int .i64 0, .int .u64 0, .int .u64 0]) 24 rfl Tryd.underlying22 info33 rfl (by decide) (by omega) (.slice A5 l.length cap) l ⟨tt, (vn : Int), (sn : Int)⟩ [.int .i64 tt, .int .u64 vn, .int .u64 sn] rfl rfl (k33_mkM _ _ _ ⟨tt, (vn : Int), (sn : Int)⟩) (H6.out.nth 2 rfl) (by have := HLI.out; omega) ?_; intro v6 w13 hs hsz; have H13 := Aside0.mk hs; clear hs hsz)))
          go_roundw
          case measure => simp [intOf]; omega
          case rel =>
            refine ⟨i + 1, sa3, l ++ [⟨tt, (vn : Int), (sn : Int)⟩], d, vw, sw, v6, rfl, by omega, ⟨by rw [List.length_append, HLI.out]; rfl⟩, by go_num, rfl, hd, F3, ⟨by rw [HG.out, HM.out, goR_more _ _ _ _ _ _ HRD.out, show v - (i + 1) = m' from by have := HM.out; omega]⟩, HVO, HSO, ⟨TdW.okL_snoc HOK.out ⟨HTR.out, ⟨by simp only; omega, by have := L2.out; simp only; omega⟩, ⟨by simp only; omega, by have := L3.out; simp only; omega⟩⟩⟩, ⟨?_⟩⟩
            exact ((show Sat w w13 (Row k33 33 v6 _ :: Rb g _ _ :: Blk gp _ 33 :: Blk g8 _ 55 :: Blk g9 _ 55 :: []) from H13.out).nth 2 rfl).tail.nth 1 rfl
        · have d3 : ((i : Int) == 0) = false := by rw [beq_eq_false_iff_ne]; omega
          obtain ⟨j, hj⟩ : ∃ j : Nat, i = j + 1 := ⟨i - 1, by omega⟩
          have e6 : IntKind.i64.wrap ((i : Int) - 1) = (j : Int) := by rw [IntKind.wrap_i64]; omega
          have HLJ := Aside0.mk (show l.length - 1 = j ∧ l.length ≠ 0 ∧ j < l.length from by have := HLI.out; omega)
          clear hi0 hj
          obtain ⟨x, sa1, h1⟩ : ∃ x s', timeR (ls, false) = (x, s') := ⟨_, _, rfl⟩
          obtain ⟨⟨yv, vw2⟩, sa2, h2⟩ : ∃ x s', valueR sa1 vw = (x, s') := ⟨_, _, rfl⟩
          obtain ⟨⟨ys, sw2⟩, sa3, h3⟩ : ∃ x s', valueR sa2 sw = (x, s') := ⟨_, _, rfl⟩
          have f1 := timeR_fine HFS.out
          rw [h1] at f1
          have f2 := valueR_ok f1 HVO.out
          rw [h2] at f2
          have f3 := valueR_ok f2.2.2 HSO.out
          rw [h3] at f3
          simp only at f1 f2 f3
          obtain ⟨hyv, hvo2, f2⟩ := f2
          obtain ⟨hys, hso2, f3⟩ := f3
          obtain ⟨⟨T, V, Sx⟩, hq⟩ : ∃ q, l.getD j zp = q := ⟨_, rfl⟩
          have hqok := getD_ok HOK.out j
          rw [hq] at hqok
          obtain ⟨hT, hV, hS⟩ := hqok
          simp only at hT hV hS
          obtain ⟨vn, rfl⟩ : ∃ vn : Nat, V = (vn : Int) := ⟨V.toNat, by omega⟩
          obtain ⟨sn, rfl⟩ : ∃ sn : Nat, Sx = (sn : Int) := ⟨Sx.toNat, by omega⟩
          have hvn : vn < 18446744073709551616 := by omega
          have hsn : sn < 18446744073709551616 := by omega
          obtain ⟨dd, hdd⟩ : ∃ dd, wrap64 (d + x) = dd := ⟨_, rfl⟩
          have hdr := wrap64_range (d + x)
          obtain ⟨tt, htt⟩ : ∃ tt, wrap64 (T + dd) = tt := ⟨_, rfl⟩
          have htr := wrap64_range (T + dd)
          rw [hdd] at hdr
          rw [htt] at htr
          obtain ⟨vx, hvx⟩ : ∃ vx, vn ^^^ yv = vx := ⟨_, rfl⟩
          obtain ⟨sx, hsx⟩ : ∃ sx, sn ^^^ ys = sx := ⟨_, rfl⟩
          have hxv : bits .xor .u64 (vn : Int) (yv : Int) = (vx : Int) := by rw [bits_xor_u64_nat vn yv hvn hyv, hvx]
          have hxs : bits .xor .u64 (sn : Int) (ys : Int) = (sx : Int) := by rw [bits_xor_u64_nat sn ys hsn hys, hsx]
          have L2 := Aside0.mk (show vx < 18446744073709551616 by rw [← hvx]; exact Nat.xor_lt_two_pow (n := 64) hvn hyv)
          have L3 := Aside0.mk (show sx < 18446744073709551616 by rw [← hsx]; exact Nat.xor_lt_two_pow (n := 64) hsn hys)
          have e7 : IntKind.i64.wrap (d + x) = dd := by
            rw [← hdd]
            generalize d + x = z
            rw [IntKind.wrap_i64]
            unfold wrap64
            omega
          have e8 : IntKind.i64.wrap (T + dd) = tt := by
            rw [← htt]
            generalize T + dd = z
            rw [IntKind.wrap_i64]
            unfold wrap64
            omega
          have HRD := Aside0.mk (show roundR (ls, false) l d vw sw = ((⟨tt, (vx : Int), (sx : Int)⟩, dd, vw2, sw2), sa3) by
            unfold roundR
            rw [if_neg HLJ.out.2.1, HLJ.out.1, hq]
            simp only [h1, h2, h3, Int.toNat_natCast, hdd, htt, hvx, hsx])
          have HQ := Aside0.mk hq
          have HVO2 := Aside0.mk hvo2
          have HSO2 := Aside0.mk hso2
          have F1 := Aside0.mk f1
          have F2 := Aside0.mk f2
          have F3 := Aside0.mk f3
          have HTR := Aside0.mk htr
          have N1 := time_calls w wp _ g (ls, false) HFS.out H.out
          rw [h1] at N1
          have M1 := Aside0.mk N1
          have E2 := Aside0.mk h2
          have E3 := Aside0.mk h3
          clear N1 f1 f2 f3 h1 h2 h3 hq hdd htt hvx hsx hvo2 hso2 htr hT hV hS
          go_upto_region 16 with (first | (go_at_call 42; go_loud ((with_reducible refine M1.out.mono ?_); rintro e w1 ⟨rfl, hs⟩; have H1 := Aside0.mk (show Sat w w1 (Rb g sa1.1 sa1.2 :: Blk gp #[.int .i64 0, .int .u64 0, .int .u64 0] 33 :: Row k33 33 (.slice A5 l.length cap) l :: Blk g8 (winC vw) 55 :: Blk g9 (winC sw) 55 :: []) from hs); clear hs)))
          clear H M1
          obtain ⟨a0, a1, a2, hwa⟩ := winC_form vw
          obtain ⟨b0, b1, b2, hwb⟩ := winC_form vw2
          obtain ⟨p0, p1, p2, hwp⟩ := winC_form sw
          obtain ⟨r0, r1, r2, hwr⟩ := winC_form sw2
          rw [hwa, hwp] at H1
          have hC5 := (H1.out.nth 2 rfl).rowC
          obtain ⟨ad, rfl, _, _, _⟩ := at_T33 hC5 (j : Int) (by omega) (by have := HLJ.out.2.2; omega)
          obtain ⟨c0, c1, c2⟩ := pt_cells hC5 HLJ.out.2.2 HQ.out
          have hj0 : (0 : Int) ≤ (j : Int) := by omega
          have hj1 : (j : Int) < (l.length : Int) := by have := HLJ.out.2.2; omega
          have hj2 : j < l.length := HLJ.out.2.2
          have k0 := (H1.out.nth 1 rfl).cell 0 (v := .int .i64 0) rfl
          have k1 := (H1.out.nth 1 rfl).free 0
          go_upto_region 18 with (fail)
          have H2 : Aside0 (Sat w (w1.setCell ⟨gp, 0, none⟩ (.int .i64 tt)) (Rb g sa1.1 sa1.2 :: Blk gp #[.int .i64 tt, .int .u64 0, .int .u64 0] 33 :: Row k33 33 (.slice (some ad) l.length cap) l :: Blk g8 #[.bool a0, .int .i64 a1, .int .i64 a2] 55 :: Blk g9 #[.bool p0, .int .i64 p1, .int .i64 p2] 55 :: [])) := ⟨((H1.out.nth 1 rfl).setBlk 0 (.int .i64 tt)).nth 1 rfl⟩
          generalize w1.setCell ⟨gp, 0, none⟩ (.int .i64 tt) = x2 at H2 ⊢
          clear H1 hC5 c0 c1 c2 k0 k1
          have N2 := value_calls w x2 _ g sa1 F1.out vw HVO.out H2.out
          rw [E2.out, hwa] at N2
          simp only at N2
          rw [hwb] at N2
          have M2 := Aside0.mk N2
          clear N2
          have k0 := (H2.out.nth 3 rfl).cell 0 (v := .bool a0) rfl
          have k1 := (H2.out.nth 3 rfl).cell 1 (v := .int .i64 a1) rfl
          have k2 := (H2.out.nth 3 rfl).cell 2 (v := .int .i64 a2) rfl
          go_upto_region 19 with (first | (go_at_call 43; go_loud ((with_reducible refine M2.out.mono ?_); rintro e x3 ⟨rfl, hs⟩; have H3 := Aside0.mk (show Sat w x3 (Rb g sa2.1 sa2.2 :: Blk gp #[.int .i64 tt, .int .u64 0, .int .u64 0] 33 :: Row k33 33 (.slice (some ad) l.length cap) l :: Blk g8 #[.bool a0, .int .i64 a1, .int .i64 a2] 55 :: Blk g9 #[.bool p0, .int .i64 p1, .int .i64 p2] 55 :: []) from hs); clear hs; have s0 := (H3.out.nth 3 rfl).cell 0 (v := .bool a0) rfl; have s1 := (H3.out.nth 3 rfl).cell 1 (v := .int .i64 a1) rfl; have s2 := (H3.out.nth 3 rfl).cell 2 (v := .int .i64 a2) rfl; have t0 := (H3.out.nth 3 rfl).free 0; have t1 := (H3.out.nth 3 rfl).free 1; have t2 := (H3.out.nth 3 rfl).free 2)))
          have H4 : Aside0 (Sat w (((x3.setCell ⟨g8, 0, none⟩ (.bool b0)).setCell ⟨g8, 1, none⟩ (.int .i64 b1)).setCell ⟨g8, 2, none⟩ (.int .i64 b2)) (Rb g sa2.1 sa2.2 :: Blk gp #[.int .i64 tt, .int .u64 0, .int .u64 0] 33 :: Row k33 33 (.slice (some ad) l.length cap) l :: Blk g8 #[.bool b0, .int .i64 b1, .int .i64 b2] 55 :: Blk g9 #[.bool p0, .int .i64 p1, .int .i64 p2] 55 :: [])) := ⟨((((((H3.out.nth 3 rfl).setBlk 0 (.bool b0)).setBlk 1 (.int .i64 b1)).setBlk 2 (.int .i64 b2)).nth 3 rfl).nth 3 rfl).nth 3 rfl⟩
          generalize ((x3.setCell ⟨g8, 0, none⟩ (.bool b0)).setCell ⟨g8, 1, none⟩ (.int .i64 b1)).setCell ⟨g8, 2, none⟩ (.int .i64 b2) = x4 at H4 ⊢
          clear H2 H3 M2 k0 k1 k2 s0 s1 s2 t0 t1 t2
          obtain ⟨c0, c1, c2⟩ := pt_cells (H4.out.nth 2 rfl).rowC HLJ.out.2.2 HQ.out
          have k0 := (H4.out.nth 1 rfl).cell 1 (v := .int .u64 0) rfl
          have k1 := (H4.out.nth 1 rfl).free 1
          go_upto_region 20 with (fail)
          have H5 : Aside0 (Sat w (x4.setCell ⟨gp, 1, none⟩ (.int .u64 vx)) (Rb g sa2.1 sa2.2 :: Blk gp #[.int .i64 tt, .int .u64 vx, .int .u64 0] 33 :: Row k33 33 (.slice (some ad) l.length cap) l :: Blk g8 #[.bool b0, .int .i64 b1, .int .i64 b2] 55 :: Blk g9 #[.bool p0, .int .i64 p1, .int .i64 p2] 55 :: [])) := ⟨((H4.out.nth 1 rfl).setBlk 1 (.int .u64 vx)).nth 1 rfl⟩
          generalize x4.setCell ⟨gp, 1, none⟩ (.int .u64 vx) = x5 at H5 ⊢
          clear H4 c0 c1 c2 k0 k1
          have N3 := value_calls w x5 _ g sa2 F2.out sw HSO.out H5.out
          rw [E3.out, hwp] at N3
          simp only at N3
          rw [hwr] at N3
          have M3 := Aside0.mk N3
          clear N3
          have k0 := (H5.out.nth 4 rfl).cell 0 (v := .bool p0) rfl
          have k1 := (H5.out.nth 4 rfl).cell 1 (v := .int .i64 p1) rfl
          have k2 := (H5.out.nth 4 rfl).cell 2 (v := .int .i64 p2) rfl
          go_upto_region 21 with (first | (go_at_call 43; go_loud ((with_reducible refine M3.out.mono ?_); rintro e x6 ⟨rfl, hs⟩; have H6 := Aside0.mk (show Sat w x6 (Rb g sa3.1 sa3.2 :: Blk gp #[.int .i64 tt, .int .u64 vx, .int .u64 0] 33 :: Row k33 33 (.slice (some ad) l.length cap) l :: Blk g8 #[.bool b0, .int .i64 b1, .int .i64 b2] 55 :: Blk g9 #[.bool p0, .int .i64 p1, .int .i64 p2] 55 :: []) from hs); clear hs; have s0 := (H6.out.nth 4 rfl).cell 0 (v := .bool p0) rfl; have s1 := (H6.out.nth 4 rfl).cell 1 (v := .int .i64 p1) rfl; have s2 := (H6.out.nth 4 rfl).cell 2 (v := .int .i64 p2) rfl; have t0 := (H6.out.nth 4 rfl).free 0; have t1 := (H6.out.nth 4 rfl).free 1; have t2 := (H6.out.nth 4 rfl).free 2)))
          have H7 : Aside0 (Sat w (((x6.setCell ⟨g9, 0, none⟩ (.bool r0)).setCell ⟨g9, 1, none⟩ (.int .i64 r1)).setCell ⟨g9, 2, none⟩ (.int .i64 r2)) (Rb g sa3.1 sa3.2 :: Blk gp #[.int .i64 tt, .int .u64 vx, .int .u64 0] 33 :: Row k33 33 (.slice (some ad) l.length cap) l :: Blk g8 #[.bool b0, .int .i64 b1, .int .i64 b2] 55 :: Blk g9 #[.bool r0, .int .i64 r1, .int .i64 r2] 55 :: [])) := ⟨(((((((H6.out.nth 4 rfl).setBlk 0 (.bool r0)).setBlk 1 (.int .i64 r1)).setBlk 2 (.int .i64 r2)).nth 4 rfl).nth 4 rfl).nth 4 rfl).nth 4 rfl⟩
          generalize ((x6.setCell ⟨g9, 0, none⟩ (.bool r0)).setCell ⟨g9, 1, none⟩ (.int .i64 r1)).setCell ⟨g9, 2, none⟩ (.int .i64 r2) = x7 at H7 ⊢
          clear H5 H6 M3 k0 k1 k2 s0 s1 s2 t0 t1 t2
          obtain ⟨c0, c1, c2⟩ := pt_cells (H7.out.nth 2 rfl).rowC HLJ.out.2.2 HQ.out
          have k0 := (H7.out.nth 1 rfl).cell 2 (v := .int .u64 0) rfl
          have k1 := (H7.out.nth 1 rfl).free 2
          go_upto_region 22 with (fail)
          have H8 : Aside0 (Sat w (x7.setCell ⟨gp, 2, none⟩ (.int .u64 sx)) (Rb g sa3.1 sa3.2 :: Blk gp #[.int .i64 tt, .int .u64 vx, .int .u64 sx] 33 :: Row k33 33 (.slice (some ad) l.length cap) l :: Blk g8 #[.bool b0, .int .i64 b1, .int .i64 b2] 55 :: Blk g9 #[.bool r0, .int .i64 r1, .int .i64 r2] 55 :: [])) := ⟨((H7.out.nth 1 rfl).setBlk 2 (.int .u64 sx)).nth 1 rfl⟩
          generalize x7.setCell ⟨gp, 2, none⟩ (.int .u64 sx) = x8 at H8 ⊢
          clear H7 c0 c1 c2 k0 k1
          rw [← hwb, ← hwr] at H8
          have k0 := (H8.out.nth 1 rfl).cell 0 (v := .int .i64 tt) rfl
          have k1 := (H8.out.nth 1 rfl).cell 1 (v := .int .u64 vx) rfl
          have k2 := (H8.out.nth 1 rfl).cell 2 (v := .int .u64 sx) rfl
          go_wp2_with (first | (at_builtin; go_loud (refine Sat.append k33 rfl _ _ 22 33 (.agg #[.int .i64 0, .int .u64 0, .int .u64 0]) 24 rfl Tryd.underlying22 info33 rfl (by decide) (by omega) (.slice (some ad) l.length cap) l ⟨tt, (vx : Int), (sx : Int)⟩ [.int .i64 tt, .int .u64 vx, .int .u64 sx] rfl rfl (k33_mkM _ _ _ ⟨tt, (vx : Int), (sx : Int)⟩) (H8.out.nth 2 rfl) (by have := HLI.out; omega) ?_; intro v6 w13 hs hsz; have H13 := Aside0.mk hs; clear hs hsz)))
          go_roundw
          case measure => simp [intOf]; omega
          case rel =>
            refine ⟨i + 1, sa3, l ++ [⟨tt, (vx : Int), (sx : Int)⟩], dd, vw2, sw2, v6, rfl, by omega, ⟨by rw [List.length_append, HLI.out]; rfl⟩, by go_num, rfl, hdr, F3, ⟨by rw [HG.out, HM.out, goR_more _ _ _ _ _ _ HRD.out, show v - (i + 1) = m' from by have := HM.out; omega]⟩, HVO2, HSO2, ⟨TdW.okL_snoc HOK.out ⟨HTR.out, ⟨by simp only; omega, by have := L2.out; simp only; omega⟩, ⟨by simp only; omega, by have := L3.out; simp only; omega⟩⟩⟩, ⟨?_⟩⟩
            exact ((show Sat w w13 (Row k33 33 v6 _ :: Rb g _ _ :: Blk gp _ 33 :: Blk g8 _ 55 :: Blk g9 _ 55 :: []) from H13.out).nth 2 rfl).tail.nth 1 rfl
      · have d1 : decide ((i : Int) < (v : Int)) = false := decide_eq_false (by omega)
        have d2 : decide (i < v) = false := decide_eq_false hlt
        obtain rfl : i = v := by omega
        have H := Aside0.mk (show Sat w wr (Row k33 33 (.slice A5 l.length cap) l :: Rb g ls false :: Blk g8 (winC vw) 55 :: Blk g9 (winC sw) 55 :: []) from HR.out.nth 1 rfl)
        obtain ⟨vb0, hvb0⟩ := HR.out.some_
        have u0 := hvb0.opened.cell 1 (v := .bool false) rfl
        clear hvb0 HR
        obtain ⟨r1, r2, hE⟩ : ∃ r1 r2, encT l = (r1, r2) := ⟨_, _, rfl⟩
        have HR1 := Aside0.mk (show Bytes r1 by have := TdW.encT_bytes l; rw [hE] at this; exact this)
        have HEF := Aside0.mk (show thermographref05_Encode.f 400000 l = some (r1, r2) by rw [TeE.ref_Encode_f (by have := HLI.out; omega) HOK.out (by have := HLI.out; omega) (by omega), hE])
        have HDQ := Aside0.mk (show refD b = if r2 = 0 ∧ r1 = b then (l, 0) else ([], 50) by
          rw [HDP.out, HSR.out, HG.out, Nat.sub_self, goR_zero]
          simp only [hE, true_and])
        clear hE HDP HG
        by_cases he : r2 = 0
        · subst he
          by_cases hb : r1 = b
          · have HD := Aside0.mk (show refD b = (l, 0) by rw [HDQ.out, if_pos ⟨rfl, hb⟩])
            have q1 : ((strOfNums r1).toList == (strOfNums b).toList) = true := by rw [hb]; exact beq_self_eq_true _
            have q2 : ((strOfNums r1).toList != (strOfNums b).toList) = false := by rw [hb]; simp
            clear HDQ hb
            go_wp2_with (first | (go_at_call 14; go_loud ((with_reducible refine (thermographref05_Encode.calls 400000 A5 cap l _ _ wr H.out.rowC hcap HEF.out).mono ?_); rintro e w6 ⟨v6, rfl, hr, hb⟩; obtain ⟨A6, c6, rfl⟩ := Kd.R_slice hr; have H6 := Aside0.mk (H.out.made hb hr); clear hr hb; obtain ⟨vb, hvb⟩ := (H6.out.nth 2 rfl).some_; have u1 := hvb.opened.cell 1 (v := .bool false) rfl; clear hvb; have y1 := Kd.C_string (P := Tryd.prog) (src := 23) (dst := 9) (c := c6) Tryd.underlying23 Tryd.underlying5 Tryd.underlying9 H6.out.rowC; have y2 := Kd.C_string (P := Tryd.prog) (src := 23) (dst := 9) (c := c) Tryd.underlying23 Tryd.underlying5 Tryd.underlying9 (Kd.C_below HC.out H6.out.below))))
            go_ret2
            refine ⟨.slice A5 l.length cap, ?_, ?_⟩
            · rw [HD.out]
              rfl
            · rw [HD.out]
              exact TdW.drop4 (show Sat w _ (Row k33 33 _ l :: Row _ _ _ r1 :: Rb g ls false :: Blk g8 _ _ :: Blk g9 _ _ :: []) from H6.out.nth 1 rfl)
          · have HD := Aside0.mk (show refD b = ([], 50) by rw [HDQ.out, if_neg (fun h => hb h.2)])
            have hne : (strOfNums r1).toList ≠ (strOfNums b).toList := fun e => hb (Go.Proofs.YtmnlbedgkjnodaaDoor.UvN.str_inj' HR1.out HBY.out e)
            have q1 : ((strOfNums r1).toList == (strOfNums b).toList) = false := by rw [beq_eq_false_iff_ne]; exact hne
            have q2 : ((strOfNums r1).toList != (strOfNums b).toList) = true := by rw [bne_iff_ne]; exact hne
            clear HDQ hb hne
            go_wp2_with (first | (go_at_call 14; go_loud ((with_reducible refine (thermographref05_Encode.calls 400000 A5 cap l _ _ wr H.out.rowC hcap HEF.out).mono ?_); rintro e w6 ⟨v6, rfl, hr, hb⟩; obtain ⟨A6, c6, rfl⟩ := Kd.R_slice hr; have H6 := Aside0.mk (H.out.made hb hr); clear hr hb; obtain ⟨vb, hvb⟩ := (H6.out.nth 2 rfl).some_; have u1 := hvb.opened.cell 1 (v := .bool false) rfl; clear hvb; have y1 := Kd.C_string (P := Tryd.prog) (src := 23) (dst := 9) (c := c6) Tryd.underlying23 Tryd.underlying5 Tryd.underlying9 H6.out.rowC; have y2 := Kd.C_string (P := Tryd.prog) (src := 23) (dst := 9) (c := c) Tryd.underlying23 Tryd.underlying5 Tryd.underlying9 (Kd.C_below HC.out H6.out.below))))
            go_ret2
            exact RefOut.bad HD.out rfl H6.out
        · have HD := Aside0.mk (show refD b = ([], 50) by rw [HDQ.out, if_neg (fun h => he h.1)])
          have d3 : (r2 != 0) = true := by rw [bne_iff_ne]; exact he
          have d4 : (r2 == 0) = false := by rw [beq_eq_false_iff_ne]; exact he
          clear HDQ he
          go_wp2_with (first | (go_at_call 14; go_loud ((with_reducible refine (thermographref05_Encode.calls 400000 A5 cap l _ _ wr H.out.rowC hcap HEF.out).mono ?_); rintro e w6 ⟨v6, rfl, hr, hb⟩; obtain ⟨A6, c6, rfl⟩ := Kd.R_slice hr; have H6 := Aside0.mk (H.out.made hb hr); clear hr hb; obtain ⟨vb, hvb⟩ := (H6.out.nth 2 rfl).some_; have u1 := hvb.opened.cell 1 (v := .bool false) rfl; clear hvb)))
          go_ret2
          exact RefOut.bad HD.out rfl H6.out
end Go.Proofs.YtmnlbedgkjnodaaDoor.RfW
