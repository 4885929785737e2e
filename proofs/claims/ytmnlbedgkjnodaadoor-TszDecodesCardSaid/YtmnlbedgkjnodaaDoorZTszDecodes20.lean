/- Both decoders of points in plain words: they agree.
   What functions of the translation come to, each as a Lean function, and a proof that the call comes to just that; or a law's row, out of its plain law. Written by mp.py, a program of this session, which runs the printer of the kit with stand-in bodies for some library functions.
   The law TszDecodes, as a statement on lists, and its call. -/
import Derived.Test.YtmnlbedgkjnodaaDoorZTszDecodes19
import Derived.Test.YtmnlbedgkjnodaaDoorZTszDecodes7
import Derived.Test.YtmnlbedgkjnodaaDoorZTszDecodes8
import Derived.Test.YtmnlbedgkjnodaaDoorZTszDecodes0
import Derived.Test.YtmnlbedgkjnodaaDoorZTszDecodes1
import Derived.Test.YtmnlbedgkjnodaaDoorZTszDecodes9
import Derived.Test.YtmnlbedgkjnodaaDoorZTszDecodes17
import Derived.Test.YtmnlbedgkjnodaaDoorZTszDecodes16
set_option linter.unusedSimpArgs false
set_option linter.unusedVariables false
namespace Go.Proofs.YtmnlbedgkjnodaaDoor.TrP
open Go.RowKit Go.Proofs.YtmnlbedgkjnodaaDoorW.PrintWords Go.Proofs.YtmnlbedgkjnodaaDoorW.PrintLast Go.Proofs.YtmnlbedgkjnodaaDoorW.PrintMore Go.Proofs.YtmnlbedgkjnodaaDoor.QB Go.Proofs.YtmnlbedgkjnodaaDoor.Bt Go.Proofs.YtmnlbedgkjnodaaDoor.RdW Go.Proofs.YtmnlbedgkjnodaaDoor.TzP Go.Proofs.YtmnlbedgkjnodaaDoor.TzW Go.Proofs.YtmnlbedgkjnodaaDoor.TeP Go.Proofs.YtmnlbedgkjnodaaDoor.TeW Go.Proofs.YtmnlbedgkjnodaaDoor.TdP Go.Proofs.YtmnlbedgkjnodaaDoor.Uv Go.Proofs.YtmnlbedgkjnodaaDoor.UvP Go.Proofs.YtmnlbedgkjnodaaDoor.RfW Go.Proofs.YtmnlbedgkjnodaaDoor.TeK Go.Proofs.YtmnlbedgkjnodaaDoor.TdS
def at_ (b : List Int) (p : Nat) : RS := ((unpk b).drop p, false)
theorem get_sim {b : List Int} {p m : Nat} {n : Int} {r : Nat × Nat} (hn : n.toNat = m) (h : gb b p m = some r) : getR (at_ b p) n = (r.1, at_ b r.2) := by
  unfold gb at h
  split at h
  · rename_i hle
    cases h
    unfold getR at_
    simp only [hn]
    rw [if_pos (by rw [List.length_drop, unpk_length]; exact hle), List.drop_drop]
    rfl
  · cases h
theorem time_sim {b : List Int} {p : Nat} {r : Int × Nat} (h : timeP b p = some r) : timeR (at_ b p) = (r.1, at_ b r.2) := by
  unfold timeP at h
  obtain ⟨r1, g1, h⟩ := Option.bind_eq_some_iff.1 h
  unfold timeR
  rw [get_sim (n := 1) rfl g1]
  simp only
  split at h
  · rename_i c
    rw [if_pos c]
    cases h
    rfl
  rename_i c
  rw [if_neg c]
  unfold formsP at h
  rw [timeGo] at h
  obtain ⟨r2, g2, h⟩ := Option.bind_eq_some_iff.1 h
  rw [get_sim (n := 1) rfl g2]
  simp only
  split at h
  · rename_i c2
    rw [if_pos c2]
    obtain ⟨u, g, h⟩ := Option.map_eq_some_iff.1 h
    rw [get_sim (n := 7) rfl g]
    cases h
    rfl
  rename_i c2
  rw [if_neg c2]
  rw [timeGo] at h
  obtain ⟨r3, g3, h⟩ := Option.bind_eq_some_iff.1 h
  rw [get_sim (n := 1) rfl g3]
  simp only
  split at h
  · rename_i c3
    rw [if_pos c3]
    obtain ⟨u, g, h⟩ := Option.map_eq_some_iff.1 h
    rw [get_sim (n := 9) rfl g]
    cases h
    rfl
  rename_i c3
  rw [if_neg c3]
  rw [timeGo] at h
  obtain ⟨r4, g4, h⟩ := Option.bind_eq_some_iff.1 h
  rw [get_sim (n := 1) rfl g4]
  simp only
  split at h
  · rename_i c4
    rw [if_pos c4]
    obtain ⟨u, g, h⟩ := Option.map_eq_some_iff.1 h
    rw [get_sim (n := 12) rfl g]
    cases h
    rfl
  rename_i c4
  rw [if_neg c4]
  rw [timeGo] at h
  obtain ⟨u, g, h⟩ := Option.map_eq_some_iff.1 h
  rw [get_sim (n := 64) rfl g]
  cases h
  rfl
theorem fin_sim {b : List Int} {p a t : Nat} {r : (Nat × Win) × Nat} (h : finP b p a t = some r) : heldR (at_ b p) (some (a, t)) = (r.1, at_ b r.2) := by
  unfold finP at h
  obtain ⟨u, g, h⟩ := Option.map_eq_some_iff.1 h
  unfold heldR
  simp only
  rw [get_sim (n := ((64 - a - t : Nat) : Int)) (Int.toNat_natCast _) g]
  cases h
  rfl
theorem value_sim {b : List Int} {p : Nat} {x : Win} {r : (Nat × Win) × Nat} (h : valueP b p x = some r) : valueR (at_ b p) x = (r.1, at_ b r.2) := by
  unfold valueP at h
  obtain ⟨r1, g1, h⟩ := Option.bind_eq_some_iff.1 h
  unfold valueR
  rw [get_sim (n := 1) rfl g1]
  simp only
  split at h
  · rename_i c
    rw [if_pos c]
    cases h
    rfl
  rename_i c
  rw [if_neg c]
  obtain ⟨r2, g2, h⟩ := Option.bind_eq_some_iff.1 h
  rw [get_sim (n := 1) rfl g2]
  simp only
  split at h
  · rename_i c2
    rw [if_pos c2]
    unfold wideP at h
    obtain ⟨a, g3, h⟩ := Option.bind_eq_some_iff.1 h
    obtain ⟨n, g4, h⟩ := Option.bind_eq_some_iff.1 h
    rw [get_sim (n := 5) rfl g3]
    simp only
    rw [get_sim (n := 6) rfl g4]
    simp only
    split at h
    · cases h
    · rename_i c3
      rw [if_neg c3]
      exact fin_sim h
  · rename_i c2
    rw [if_neg c2]
    cases x with
    | none => cases h
    | some w => exact fin_sim h
theorem go_sim (b : List Int) : ∀ (m : Nat) (l : List Pt) (st : St) (p : Nat) (r : List Pt), goP b m l st p = some r → ∃ q, goR m l st.1 st.2.1 st.2.2 (at_ b p) = (r, at_ b q)
  | 0, l, st, p, r, h => by cases h; exact ⟨p, rfl⟩
  | m + 1, l, (d, vw, sw), p, r, h => by
    rw [goP] at h
    rw [goR, if_neg (by simp [at_])]
    split at h
    · rename_i c
      obtain ⟨⟨pt, q⟩, g, h⟩ := Option.bind_eq_some_iff.1 h
      unfold headP at g
      obtain ⟨t, g1, g⟩ := Option.bind_eq_some_iff.1 g
      obtain ⟨v, g2, g⟩ := Option.bind_eq_some_iff.1 g
      obtain ⟨s, g3, g⟩ := Option.map_eq_some_iff.1 g
      have e : roundR (at_ b p) l d vw sw = ((pt, d, vw, sw), at_ b q) := by
        unfold roundR
        rw [if_pos c, get_sim (n := 64) rfl g1]
        simp only
        rw [get_sim (n := 64) rfl g2]
        simp only
        rw [get_sim (n := 64) rfl g3]
        cases g
        rfl
      rw [e]
      exact go_sim b m _ (d, vw, sw) q r h
    · rename_i c
      obtain ⟨⟨⟨pt, d2, vw2, sw2⟩, q⟩, g, h⟩ := Option.bind_eq_some_iff.1 h
      unfold nextP at g
      obtain ⟨x, g1, g⟩ := Option.bind_eq_some_iff.1 g
      obtain ⟨y, g2, g⟩ := Option.bind_eq_some_iff.1 g
      obtain ⟨z, g3, g⟩ := Option.map_eq_some_iff.1 g
      simp only at g2 g3
      have e : roundR (at_ b p) l d vw sw = ((pt, d2, vw2, sw2), at_ b q) := by
        unfold roundR
        rw [if_neg c, time_sim g1]
        simp only
        rw [value_sim g2]
        simp only
        rw [value_sim g3]
        cases g
        rfl
      rw [e]
      exact go_sim b m _ (d2, vw2, sw2) q r h
theorem round_ok {s : RS} {l : List Pt} {d : Int} {vw sw : Win} (hs : FineS s) (hl : OkL l) (hv : vw.Ok) (hw : sw.Ok) : okPt (roundR s l d vw sw).1.1 ∧ (roundR s l d vw sw).1.2.2.1.Ok ∧ (roundR s l d vw sw).1.2.2.2.Ok ∧ FineS (roundR s l d vw sw).2 := by
  unfold roundR
  split
  · have h2 : (getR (getR s 64).2 64).1 < 18446744073709551616 := getR_lt (getR_fine hs _) 64
    have h3 : (getR (getR (getR s 64).2 64).2 64).1 < 18446744073709551616 := getR_lt (getR_fine (getR_fine hs _) _) 64
    exact ⟨⟨wrap64_range _, ⟨by simp only; omega, by simp only; omega⟩, ⟨by simp only; omega, by simp only; omega⟩⟩, hv, hw, getR_fine (getR_fine (getR_fine hs _) _) _⟩
  · obtain ⟨a1, a2, a3⟩ := valueR_ok (timeR_fine hs) hv
    obtain ⟨b1, b2, b3⟩ := valueR_ok a3 hw
    obtain ⟨_, hV, hS⟩ := getD_ok hl (l.length - 1)
    have x1 := Nat.xor_lt_two_pow (n := 64) (x := (l.getD (l.length - 1) zp).f1.toNat) (by omega) a1
    have x2 := Nat.xor_lt_two_pow (n := 64) (x := (l.getD (l.length - 1) zp).f2.toNat) (by omega) b1
    exact ⟨⟨wrap64_range _, ⟨by simp only; omega, by simp only; omega⟩, ⟨by simp only; omega, by simp only; omega⟩⟩, a2, b2, b3⟩
theorem goR_ok : ∀ (m : Nat) (l : List Pt) (d : Int) (vw sw : Win) (s : RS), FineS s → OkL l → vw.Ok → sw.Ok → OkL (goR m l d vw sw s).1
  | 0, l, d, vw, sw, s, hs, hl, hv, hw => hl
  | m + 1, l, d, vw, sw, s, hs, hl, hv, hw => by
    rw [goR]
    split
    · exact hl
    · obtain ⟨h1, h2, h3, h4⟩ := round_ok (d := d) hs hl hv hw
      exact goR_ok m _ _ _ _ _ h4 (TdW.okL_snoc hl h1) h2 h3
theorem pointsP_ok {b : List Int} (hb : b.length ≤ 1000000) {n : Nat} {l : List Pt} (h : pointsP b n = some l) : OkL l := by
  obtain ⟨q, e⟩ := go_sim b n [] st0 0 l h
  have := goR_ok n [] 0 none none (at_ b 0) ⟨(unpk_isBits b).drop 0, by simp only [at_, List.length_drop, unpk_length]; omega⟩ (fun p hp => by cases hp) Win.ok_none Win.ok_none
  have e2 : goR n [] 0 none none (at_ b 0) = (l, at_ b q) := e
  rw [e2] at this
  exact this
theorem dec_cases (b : List Int) : TdW.decP b = ([], 50) ∨ ∃ l, TdW.decP b = (l, 0) := by
  unfold TdW.decP
  split
  · exact .inl rfl
  split
  · exact .inl rfl
  split
  · exact .inr ⟨_, rfl⟩
  · exact .inl rfl
theorem enc_back {l : List Pt} {b : List Int} (h : (encT l).2 = 0 ∧ (encT l).1 = b) : checkF l = 0 ∧ encB l = b := by
  have h1 : checkF l = 0 := by rw [← encT_snd]; exact h.1
  refine ⟨h1, ?_⟩
  rw [← h.2, encT_ok h1]
theorem dec_ok {b : List Int} {l : List Pt} (hb : b.length ≤ 1000000) (h : TdW.decP b = (l, 0)) : OkL l ∧ checkF l = 0 ∧ encB l = b := by
  unfold TdW.decP at h
  split at h
  · cases h
  split at h
  · cases h
  rename_i l2 hp
  split at h
  · rename_i c
    cases h
    exact ⟨pointsP_ok (by rw [List.length_drop]; omega) hp, enc_back c⟩
  · cases h
theorem ref_cases (b : List Int) : refD b = ([], 50) ∨ ∃ l, refD b = (l, 0) := by
  unfold refD
  split
  · exact .inl rfl
  split
  · exact .inr ⟨_, rfl⟩
  · exact .inl rfl
theorem seen_fine (b : List Int) : FineS (seenR b) := by
  refine ⟨unpk_isBits _, ?_⟩
  unfold seenR
  simp only [unpk_length, List.length_drop, List.length_take]
  omega
theorem ref_ok {b : List Int} {l : List Pt} (h : refD b = (l, 0)) : OkL l ∧ checkF l = 0 ∧ encB l = b := by
  unfold refD at h
  split at h
  · cases h
  split at h
  · rename_i c
    have hok := goR_ok (ruv b).1.toNat [] 0 none none (seenR b) (seen_fine b) (fun p hp => by cases hp) Win.ok_none Win.ok_none
    cases h
    exact ⟨hok, enc_back c.2⟩
  · cases h
theorem ref_enc {l : List Pt} (hk : checkF l = 0) (hok : OkL l) : refD (encB l) = (l, 0) := by
  obtain ⟨hn, _, _⟩ := checkF_zero hk
  have hs := encB_small hk
  obtain ⟨h1, h2⟩ := dec_at hk hok []
  rw [List.append_nil] at h1 h2
  rw [h2] at h1
  simp only [Int.toNat_natCast] at h1
  obtain ⟨q, e⟩ := go_sim _ _ _ _ _ _ h1
  have hse : seenR (encB l) = at_ ((encB l).drop (uv l.length).length) 0 := by
    unfold seenR at_
    rw [h2]
    simp only [Int.toNat_natCast]
    rw [List.take_of_length_le (by omega), List.drop_zero]
  have e2 : goR l.length [] 0 none none (seenR (encB l)) = (l, at_ ((encB l).drop (uv l.length).length) q) := by rw [hse]; exact e
  have hp := uv_pos l.length
  unfold refD
  rw [h2]
  simp only [Int.toNat_natCast]
  rw [if_neg (by omega), e2]
  simp only
  rw [if_pos ⟨rfl, by rw [encT_ok hk], by rw [encT_ok hk]⟩]
theorem same_dec {b : List Int} (hb : b.length ≤ 1000000) : refD b = TdW.decP b := by
  rcases dec_cases b with h | ⟨l, h⟩
  · rcases ref_cases b with h2 | ⟨l, h2⟩
    · rw [h, h2]
    · obtain ⟨hok, hk, he⟩ := ref_ok h2
      rw [← he, dec_enc hk hok, ref_enc hk hok]
  · obtain ⟨hok, hk, he⟩ := dec_ok hb h
    rw [← he, dec_enc hk hok, ref_enc hk hok]
end Go.Proofs.YtmnlbedgkjnodaaDoor.TrP
namespace Go.Proofs.YtmnlbedgkjnodaaDoor.QB
open Go.RowKit Go.Proofs.YtmnlbedgkjnodaaDoorW.PrintWords Go.Proofs.YtmnlbedgkjnodaaDoorW.PrintLast Go.Proofs.YtmnlbedgkjnodaaDoorW.PrintMore
attribute [local go_sem] max2_int min2_int max_two min_two max_three min_three max_four min_four   -- for this text's walks alone
def thermographlaw05_TszDecodes.f (k : Nat) (l0 : List Int) : Option (Bool) := if (l0.length : Int) > 65536 then (some true) else ((some (([] : List Int) : List Int)).bind fun y421 => (if y421.length + l0.length < 140737488355328 then ((some (y421 ++ l0 : List Int)).bind fun y424 => ((tsz_Decode.f y424).bind fun bt427 => ((thermographref05_Decode.f l0).bind fun bt431 => (if bt427.2 = bt431.2 then ((thermographlaw05_same.f k bt427.1 bt431.1).bind fun t435 => (if t435 = true then (some ((strOfNums y424).toList == (strOfNums l0).toList)) else (some false))) else (some false))))) else (none)))
set_option maxHeartbeats 8000000 in
set_option maxRecDepth 100000 in
theorem thermographlaw05_TszDecodes.calls (k : Nat) (A0 : Option Addr) (c0 : Nat) (l0 : List Int) (r : Bool) (w : World) (hr0 : Kd.C (Kd.int .u8) w A0 l0.length l0) (hc0 : l0.length ≤ c0) (h : thermographlaw05_TszDecodes.f k l0 = some r) (hL : Ld.LaidW w) :
    Calls Tryd.prog 8 #[.slice A0 l0.length c0] w fun e w' => e = .returned (.bool r) ∧ Below w.heap.size w w' := by
  have HL := Aside0.mk hL
  clear hL
  have HR0 := Aside0.mk hr0
  have HC0 := Aside0.mk hc0
  clear hr0 hc0
  have HB := Aside0.mk (Below.refl w.heap.size w)
  have H : (if (l0.length : Int) > 65536 then (some true) else ((some (([] : List Int) : List Int)).bind fun y421 => (if y421.length + l0.length < 140737488355328 then ((some (y421 ++ l0 : List Int)).bind fun y424 => ((tsz_Decode.f y424).bind fun bt427 => ((thermographref05_Decode.f l0).bind fun bt431 => (if bt427.2 = bt431.2 then ((thermographlaw05_same.f k bt427.1 bt431.1).bind fun t435 => (if t435 = true then (some ((strOfNums y424).toList == (strOfNums l0).toList)) else (some false))) else (some false))))) else (none)))) = some r := h
  clear h
  by_cases c2 : (l0.length : Int) > 65536
  · rw [if_pos c2] at H
    have c2b0 : decide (65536 < (l0.length : Int)) = true := decide_eq_true c2
    have c2b1 : decide (65536 < l0.length) = true := decide_eq_true (by omega)
    clear c2
    obtain rfl := Option.some.inj H
    go_enter Tryd.func8, Tryd.ntmps8
    go_wp2
    go_ret
    exact ⟨by first | rfl | (simp [errW_none, errW_some] <;> rfl) | (simp [*, errW_none, errW_some] <;> rfl), by repeat (first | (with_reducible first | exact HB.out | apply below_alloc | apply pw_below_drewN | apply below_drew1) | exact HB.out)⟩
  · rw [if_neg c2] at H
    have c2b0 : decide (65536 < (l0.length : Int)) = false := decide_eq_false c2
    have c2b1 : decide (65536 < l0.length) = false := decide_eq_false (by omega)
    clear c2
    obtain ⟨y421, hy421⟩ : ∃ y_ : List Int, y_ = (([] : List Int)) := ⟨_, rfl⟩
    replace H : (if y421.length + l0.length < 140737488355328 then ((some (y421 ++ l0 : List Int)).bind fun y424 => ((tsz_Decode.f y424).bind fun bt427 => ((thermographref05_Decode.f l0).bind fun bt431 => (if bt427.2 = bt431.2 then ((thermographlaw05_same.f k bt427.1 bt431.1).bind fun t435 => (if t435 = true then (some ((strOfNums y424).toList == (strOfNums l0).toList)) else (some false))) else (some false))))) else (none)) = some r := by first | (rw [hy421]; with_reducible exact H) | (have H2_ := (Option.bind_some _ _).symm.trans H; rw [hy421]; with_reducible exact H2_) | (have H2_ := (Option.bind_some _ _).symm.trans H; with_reducible exact H2_) | with_reducible exact H | (rw [hy421]; exact H) | exact H
    have Ny421 := Aside0.mk hy421
    clear hy421
    by_cases c3 : y421.length + l0.length < 140737488355328
    · rw [if_pos c3] at H
      have LMc3 := Aside0.mk c3
      clear c3
      obtain ⟨y424, hy424⟩ : ∃ y_ : List Int, y_ = (y421 ++ l0) := ⟨_, rfl⟩
      replace H : ((tsz_Decode.f y424).bind fun bt427 => ((thermographref05_Decode.f l0).bind fun bt431 => (if bt427.2 = bt431.2 then ((thermographlaw05_same.f k bt427.1 bt431.1).bind fun t435 => (if t435 = true then (some ((strOfNums y424).toList == (strOfNums l0).toList)) else (some false))) else (some false)))) = some r := by first | (rw [hy424]; with_reducible exact H) | (have H2_ := (Option.bind_some _ _).symm.trans H; rw [hy424]; with_reducible exact H2_) | (have H2_ := (Option.bind_some _ _).symm.trans H; with_reducible exact H2_) | with_reducible exact H | (rw [hy424]; exact H) | exact H
      have Ny424 := Aside0.mk hy424
      clear hy424
      replace H := Option.bind_eq_some_iff.mp H
      obtain ⟨⟨t427, t428⟩, A40, H⟩ := H
      replace H : ((thermographref05_Decode.f l0).bind fun bt431 => (if t428 = bt431.2 then ((thermographlaw05_same.f k t427 bt431.1).bind fun t435 => (if t435 = true then (some ((strOfNums y424).toList == (strOfNums l0).toList)) else (some false))) else (some false))) = some r := H
      have A4 := Aside0.mk A40
      clear A40
      replace H := Option.bind_eq_some_iff.mp H
      obtain ⟨⟨t431, t432⟩, A50, H⟩ := H
      replace H : (if t428 = t432 then ((thermographlaw05_same.f k t427 t431).bind fun t435 => (if t435 = true then (some ((strOfNums y424).toList == (strOfNums l0).toList)) else (some false))) else (some false)) = some r := H
      have A5 := Aside0.mk A50
      clear A50
      by_cases c6 : t428 = t432
      · rw [if_pos c6] at H
        have c6b0 : (t428 == t432) = true := beq_iff_eq.mpr c6
        have c6b1 : (t428 != t432) = false := bne_eq_false_iff_eq.mpr c6
        clear c6
        replace H := Option.bind_eq_some_iff.mp H
        obtain ⟨t435, A70, H⟩ := H
        replace H : (if t435 = true then (some ((strOfNums y424).toList == (strOfNums l0).toList)) else (some false)) = some r := H
        have A7 := Aside0.mk A70
        clear A70
        by_cases c8 : t435 = true
        · subst c8
          have H1 : (some ((strOfNums y424).toList == (strOfNums l0).toList)) = some r := by rw [if_pos rfl] at H; exact H
          clear H
          have H := H1
          clear H1
          obtain rfl := Option.some.inj H
          go_enter Tryd.func8, Tryd.ntmps8
          go_wp2_with (first | ((with_reducible refine gate_dst (N := 11) rfl ?_); refine Kd.R_lit (Kd.int .u8) _ 5 ?hg (N := 11) ?hd (xs := ([] : List Int)) (inner := []) (ok := fun _ => True) (okp := fun _ => True) ?hr ?hp (fun _ hk => hk) trivial (Below.refl _ _) (Nat.le_refl _) (by simp) ?_; (case hd => rfl); (case hg => rfl); (case hr => first | (go_simp; done) | (go_simp; rfl)); (case hp => exact (Reps.none _ _)); intro v422 w9 ho10 hb hg_ hnew_; clear hg_ hnew_; (first | rw [← Ny421.out] at ho10 | (simp only [Int.reduceToNat] at ho10; rw [← Ny421.out] at ho10)); have n0_ := Aside0.mk (Kd.R_lower ho10 (below_size (by repeat (first | (with_reducible first | exact HB.out | apply below_alloc | apply pw_below_drewN | apply below_drew1) | exact HB.out)))); have n1_ := Aside0.mk (below_step (by repeat (first | (with_reducible first | exact HB.out | apply below_alloc | apply pw_below_drewN | apply below_drew1) | exact HB.out)) hb); clear HB; have HO423 := n0_; have HB := n1_; clear n0_ n1_; clear hb ho10) | ((with_reducible refine gate_builtin (b := .append) (xs := #[.tmp 12, .tmp 13]) rfl ?_); at_builtin; refine Kd.R_append_rows (Kd.int .u8) (w0 := w) w.heap.size rfl (.tmp 12) (.tmp 13) 23 5 (.int .u8 0) 1 rfl Tryd.underlying23 info5 rfl (by decide) (by omega) v422 y421 l0 _ _ _ (fun _ => True) (fun _ => False) rfl rfl ?aO ?aR (fun _ _ h => h) (fun _ h => h.elim) ?aF ?aB ?aS ?aL ?_; (case aR => repeat (first | exact (Kd.C_below HR0.out HB.out) | (with_reducible refine Kd.C_alloc ?_ _) | (with_reducible refine Kd.C_drewN ?_ _) | (with_reducible refine Kd.C_drew ?_))); (case aB => exact (by repeat (first | (with_reducible first | exact HB.out | apply below_alloc | apply pw_below_drewN | apply below_drew1) | exact HB.out))); (case aF => exact (fun _ _ => trivial)); (case aO => exact (by (with_reducible repeat (first | apply Kd.R_alloc | apply Kd.R_drewN | apply Kd.R_drew)); exact HO423.out)); (case aS => exact (below_size (by repeat (first | (with_reducible first | exact HB.out | apply below_alloc | apply pw_below_drewN | apply below_drew1) | exact HB.out)))); (case aL => have := LMc3.out; omega); intro v425 w11 ho hb hg hat; rw [← Ny424.out] at ho; have n0_ := Aside0.mk (hb); have n1_ := Aside0.mk (ho); clear HB; clear HO423; have HB := n0_; have HO426 := n1_; clear n0_ n1_; clear ho hb hg hat; obtain ⟨Ao12, co12, eo12⟩ := Kd.R_slice HO426.out; subst eo12) | ((with_reducible refine gate_callee (f := 19) rfl ?_); refine goesL_ (some 17) rfl rfl Tryd.func19 (by kernel_rfl) rfl #[.slice Ao12 y424.length co12] rfl (by (try simp only [List.map_toArray, List.map_cons, List.map_nil]); first | done | rfl | (simp only [List.length_drop, List.length_take]; rfl)) ?_; (with_reducible refine (tsz_Decode.calls _ _ y424 t427 t428 _ ?side1 ?side2 A4.out ?sideL).mono ?_); (case sideL => exact Ld.LaidW.below HL.out (by repeat (first | (with_reducible first | exact HB.out | apply below_alloc | apply pw_below_drewN | apply below_drew1) | exact HB.out))); (case side1 => repeat (first | exact (Kd.R_reads' HO426.out).2.2 | (with_reducible refine Kd.C_alloc ?_ _) | (with_reducible refine Kd.C_drewN ?_ _) | (with_reducible refine Kd.C_drew ?_))); (case side2 => exact (Kd.R_reads' HO426.out).2.1); rintro e w13 ⟨v429, rfl, ho0, hb⟩; refine ⟨_, rfl, ?_⟩; have n0_ := Aside0.mk (Kd.R_below (by (with_reducible repeat (first | apply Kd.R_alloc | apply Kd.R_drewN | apply Kd.R_drew)); exact HO426.out) hb); have n1_ := Aside0.mk (Kd.R_lower ho0 (below_size (by repeat (first | (with_reducible first | exact HB.out | apply below_alloc | apply pw_below_drewN | apply below_drew1) | exact HB.out)))); have n2_ := Aside0.mk (below_step (by repeat (first | (with_reducible first | exact HB.out | apply below_alloc | apply pw_below_drewN | apply below_drew1) | exact HB.out)) hb); clear HO426; clear HB; have HO426 := n0_; have HO430 := n1_; have HB := n2_; clear n0_ n1_ n2_; (try clear hb); (try clear hb2); (try clear hk); (try clear hi); (try clear ho0)) | ((with_reducible refine gate_callee (f := 20) rfl ?_); refine goesL_ (some 22) rfl rfl Tryd.func20 (by kernel_rfl) rfl #[.slice A0 l0.length c0] rfl (by (try simp only [List.map_toArray, List.map_cons, List.map_nil]); first | done | rfl | (simp only [List.length_drop, List.length_take]; rfl)) ?_; (with_reducible refine (thermographref05_Decode.calls _ _ l0 t431 t432 _ ?side1 ?side2 A5.out).mono ?_); (case side1 => repeat (first | exact (Kd.C_below HR0.out HB.out) | (with_reducible refine Kd.C_alloc ?_ _) | (with_reducible refine Kd.C_drewN ?_ _) | (with_reducible refine Kd.C_drew ?_))); (case side2 => exact HC0.out); rintro e w14 ⟨v433, rfl, ho0, hb⟩; refine ⟨_, rfl, ?_⟩; have n0_ := Aside0.mk (Kd.R_below (by (with_reducible repeat (first | apply Kd.R_alloc | apply Kd.R_drewN | apply Kd.R_drew)); exact HO426.out) hb); have n1_ := Aside0.mk (Kd.R_elder' (by (with_reducible repeat (first | apply Kd.R_alloc | apply Kd.R_drewN | apply Kd.R_drew)); exact HO430.out) (Kd.R_base ho0) hb); have n2_ := Aside0.mk (Kd.R_lower (Kd.R_new' ho0 (Kd.R_lt (by (with_reducible repeat (first | apply Kd.R_alloc | apply Kd.R_drewN | apply Kd.R_drew)); exact HO430.out))) (below_size (by repeat (first | (with_reducible first | exact HB.out | apply below_alloc | apply pw_below_drewN | apply below_drew1) | exact HB.out)))); have n3_ := Aside0.mk (below_step (by repeat (first | (with_reducible first | exact HB.out | apply below_alloc | apply pw_below_drewN | apply below_drew1) | exact HB.out)) hb); clear HO426; clear HO430; clear HB; have HO426 := n0_; have HO430 := n1_; have HO434 := n2_; have HB := n3_; clear n0_ n1_ n2_ n3_; (try clear hb); (try clear hb2); (try clear hk); (try clear hi); (try clear ho0); obtain ⟨Ao15, co15, eo15⟩ := Kd.R_slice HO430.out; subst eo15; obtain ⟨Ao16, co16, eo16⟩ := Kd.R_slice HO434.out; subst eo16) | (go_at_call 18; (with_reducible refine (thermographlaw05_same.calls k _ _ t427 _ _ t431 true _ ?side1 ?side2 ?side3 ?side4 A7.out).mono ?_); (case side1 => repeat (first | exact (Kd.R_reads' HO430.out).2.2 | (with_reducible refine Kd.C_alloc ?_ _) | (with_reducible refine Kd.C_drewN ?_ _) | (with_reducible refine Kd.C_drew ?_))); (case side2 => exact (Kd.R_reads' HO430.out).2.1); (case side3 => repeat (first | exact (Kd.R_reads' HO434.out).2.2 | (with_reducible refine Kd.C_alloc ?_ _) | (with_reducible refine Kd.C_drewN ?_ _) | (with_reducible refine Kd.C_drew ?_))); (case side4 => exact (Kd.R_reads' HO434.out).2.1); rintro e w' ⟨rfl, ⟨nd, rfl⟩⟩; have hcv17 : (convert 23 9 (.slice Ao12 y424.length co12)).run Tryd.prog (w14.drewN nd) = .ok (.string (strOfNums y424)) (w14.drewN nd) := own_string (P := Tryd.prog) Tryd.underlying23 Tryd.underlying5 Tryd.underlying9  (Kd.own_of_R (by apply Kd.R_drewN; exact HO426.out)); have hcv18 : (convert 23 9 (.slice A0 l0.length c0)).run Tryd.prog (w14.drewN nd) = .ok (.string (strOfNums l0)) (w14.drewN nd) := Kd.C_string (P := Tryd.prog) (A := A0) (c := c0) Tryd.underlying23 Tryd.underlying5 Tryd.underlying9  (by apply Kd.C_drewN; exact (Kd.C_below HR0.out HB.out))))
          go_ret
          exact ⟨by first | rfl | (simp [errW_none, errW_some] <;> rfl) | (simp [*, errW_none, errW_some] <;> rfl), by repeat (first | (with_reducible first | exact HB.out | apply below_alloc | apply pw_below_drewN | apply below_drew1) | exact HB.out)⟩
        · replace c8 := Bool.eq_false_iff.mpr c8
          subst c8
          have H1 : (some false) = some r := by rw [if_neg (show ¬ (false = true) by decide)] at H; exact H
          clear H
          have H := H1
          clear H1
          obtain rfl := Option.some.inj H
          go_enter Tryd.func8, Tryd.ntmps8
          go_wp2_with (first | ((with_reducible refine gate_dst (N := 11) rfl ?_); refine Kd.R_lit (Kd.int .u8) _ 5 ?hg (N := 11) ?hd (xs := ([] : List Int)) (inner := []) (ok := fun _ => True) (okp := fun _ => True) ?hr ?hp (fun _ hk => hk) trivial (Below.refl _ _) (Nat.le_refl _) (by simp) ?_; (case hd => rfl); (case hg => rfl); (case hr => first | (go_simp; done) | (go_simp; rfl)); (case hp => exact (Reps.none _ _)); intro v422 w19 ho20 hb hg_ hnew_; clear hg_ hnew_; (first | rw [← Ny421.out] at ho20 | (simp only [Int.reduceToNat] at ho20; rw [← Ny421.out] at ho20)); have n0_ := Aside0.mk (Kd.R_lower ho20 (below_size (by repeat (first | (with_reducible first | exact HB.out | apply below_alloc | apply pw_below_drewN | apply below_drew1) | exact HB.out)))); have n1_ := Aside0.mk (below_step (by repeat (first | (with_reducible first | exact HB.out | apply below_alloc | apply pw_below_drewN | apply below_drew1) | exact HB.out)) hb); clear HB; have HO423 := n0_; have HB := n1_; clear n0_ n1_; clear hb ho20) | ((with_reducible refine gate_builtin (b := .append) (xs := #[.tmp 12, .tmp 13]) rfl ?_); at_builtin; refine Kd.R_append_rows (Kd.int .u8) (w0 := w) w.heap.size rfl (.tmp 12) (.tmp 13) 23 5 (.int .u8 0) 1 rfl Tryd.underlying23 info5 rfl (by decide) (by omega) v422 y421 l0 _ _ _ (fun _ => True) (fun _ => False) rfl rfl ?aO ?aR (fun _ _ h => h) (fun _ h => h.elim) ?aF ?aB ?aS ?aL ?_; (case aR => repeat (first | exact (Kd.C_below HR0.out HB.out) | (with_reducible refine Kd.C_alloc ?_ _) | (with_reducible refine Kd.C_drewN ?_ _) | (with_reducible refine Kd.C_drew ?_))); (case aB => exact (by repeat (first | (with_reducible first | exact HB.out | apply below_alloc | apply pw_below_drewN | apply below_drew1) | exact HB.out))); (case aF => exact (fun _ _ => trivial)); (case aO => exact (by (with_reducible repeat (first | apply Kd.R_alloc | apply Kd.R_drewN | apply Kd.R_drew)); exact HO423.out)); (case aS => exact (below_size (by repeat (first | (with_reducible first | exact HB.out | apply below_alloc | apply pw_below_drewN | apply below_drew1) | exact HB.out)))); (case aL => have := LMc3.out; omega); intro v425 w21 ho hb hg hat; rw [← Ny424.out] at ho; have n0_ := Aside0.mk (hb); have n1_ := Aside0.mk (ho); clear HB; clear HO423; have HB := n0_; have HO426 := n1_; clear n0_ n1_; clear ho hb hg hat; obtain ⟨Ao22, co22, eo22⟩ := Kd.R_slice HO426.out; subst eo22) | ((with_reducible refine gate_callee (f := 19) rfl ?_); refine goesL_ (some 17) rfl rfl Tryd.func19 (by kernel_rfl) rfl #[.slice Ao22 y424.length co22] rfl (by (try simp only [List.map_toArray, List.map_cons, List.map_nil]); first | done | rfl | (simp only [List.length_drop, List.length_take]; rfl)) ?_; (with_reducible refine (tsz_Decode.calls _ _ y424 t427 t428 _ ?side1 ?side2 A4.out ?sideL).mono ?_); (case sideL => exact Ld.LaidW.below HL.out (by repeat (first | (with_reducible first | exact HB.out | apply below_alloc | apply pw_below_drewN | apply below_drew1) | exact HB.out))); (case side1 => repeat (first | exact (Kd.R_reads' HO426.out).2.2 | (with_reducible refine Kd.C_alloc ?_ _) | (with_reducible refine Kd.C_drewN ?_ _) | (with_reducible refine Kd.C_drew ?_))); (case side2 => exact (Kd.R_reads' HO426.out).2.1); rintro e w23 ⟨v429, rfl, ho0, hb⟩; refine ⟨_, rfl, ?_⟩; have n0_ := Aside0.mk (Kd.R_below (by (with_reducible repeat (first | apply Kd.R_alloc | apply Kd.R_drewN | apply Kd.R_drew)); exact HO426.out) hb); have n1_ := Aside0.mk (Kd.R_lower ho0 (below_size (by repeat (first | (with_reducible first | exact HB.out | apply below_alloc | apply pw_below_drewN | apply below_drew1) | exact HB.out)))); have n2_ := Aside0.mk (below_step (by repeat (first | (with_reducible first | exact HB.out | apply below_alloc | apply pw_below_drewN | apply below_drew1) | exact HB.out)) hb); clear HO426; clear HB; have HO426 := n0_; have HO430 := n1_; have HB := n2_; clear n0_ n1_ n2_; (try clear hb); (try clear hb2); (try clear hk); (try clear hi); (try clear ho0)) | ((with_reducible refine gate_callee (f := 20) rfl ?_); refine goesL_ (some 22) rfl rfl Tryd.func20 (by kernel_rfl) rfl #[.slice A0 l0.length c0] rfl (by (try simp only [List.map_toArray, List.map_cons, List.map_nil]); first | done | rfl | (simp only [List.length_drop, List.length_take]; rfl)) ?_; (with_reducible refine (thermographref05_Decode.calls _ _ l0 t431 t432 _ ?side1 ?side2 A5.out).mono ?_); (case side1 => repeat (first | exact (Kd.C_below HR0.out HB.out) | (with_reducible refine Kd.C_alloc ?_ _) | (with_reducible refine Kd.C_drewN ?_ _) | (with_reducible refine Kd.C_drew ?_))); (case side2 => exact HC0.out); rintro e w24 ⟨v433, rfl, ho0, hb⟩; refine ⟨_, rfl, ?_⟩; have n0_ := Aside0.mk (Kd.R_below (by (with_reducible repeat (first | apply Kd.R_alloc | apply Kd.R_drewN | apply Kd.R_drew)); exact HO426.out) hb); have n1_ := Aside0.mk (Kd.R_elder' (by (with_reducible repeat (first | apply Kd.R_alloc | apply Kd.R_drewN | apply Kd.R_drew)); exact HO430.out) (Kd.R_base ho0) hb); have n2_ := Aside0.mk (Kd.R_lower (Kd.R_new' ho0 (Kd.R_lt (by (with_reducible repeat (first | apply Kd.R_alloc | apply Kd.R_drewN | apply Kd.R_drew)); exact HO430.out))) (below_size (by repeat (first | (with_reducible first | exact HB.out | apply below_alloc | apply pw_below_drewN | apply below_drew1) | exact HB.out)))); have n3_ := Aside0.mk (below_step (by repeat (first | (with_reducible first | exact HB.out | apply below_alloc | apply pw_below_drewN | apply below_drew1) | exact HB.out)) hb); clear HO426; clear HO430; clear HB; have HO426 := n0_; have HO430 := n1_; have HO434 := n2_; have HB := n3_; clear n0_ n1_ n2_ n3_; (try clear hb); (try clear hb2); (try clear hk); (try clear hi); (try clear ho0); obtain ⟨Ao25, co25, eo25⟩ := Kd.R_slice HO430.out; subst eo25; obtain ⟨Ao26, co26, eo26⟩ := Kd.R_slice HO434.out; subst eo26) | (go_at_call 18; (with_reducible refine (thermographlaw05_same.calls k _ _ t427 _ _ t431 false _ ?side1 ?side2 ?side3 ?side4 A7.out).mono ?_); (case side1 => repeat (first | exact (Kd.R_reads' HO430.out).2.2 | (with_reducible refine Kd.C_alloc ?_ _) | (with_reducible refine Kd.C_drewN ?_ _) | (with_reducible refine Kd.C_drew ?_))); (case side2 => exact (Kd.R_reads' HO430.out).2.1); (case side3 => repeat (first | exact (Kd.R_reads' HO434.out).2.2 | (with_reducible refine Kd.C_alloc ?_ _) | (with_reducible refine Kd.C_drewN ?_ _) | (with_reducible refine Kd.C_drew ?_))); (case side4 => exact (Kd.R_reads' HO434.out).2.1); rintro e w' ⟨rfl, ⟨nd, rfl⟩⟩))
          go_ret
          exact ⟨by first | rfl | (simp [errW_none, errW_some] <;> rfl) | (simp [*, errW_none, errW_some] <;> rfl), by repeat (first | (with_reducible first | exact HB.out | apply below_alloc | apply pw_below_drewN | apply below_drew1) | exact HB.out)⟩
      · rw [if_neg c6] at H
        have c6b0 : (t428 == t432) = false := beq_eq_false_iff_ne.mpr c6
        have c6b1 : (t428 != t432) = true := bne_iff_ne.mpr c6
        obtain rfl := Option.some.inj H
        go_enter Tryd.func8, Tryd.ntmps8
        go_wp2_with (first | ((with_reducible refine gate_dst (N := 11) rfl ?_); refine Kd.R_lit (Kd.int .u8) _ 5 ?hg (N := 11) ?hd (xs := ([] : List Int)) (inner := []) (ok := fun _ => True) (okp := fun _ => True) ?hr ?hp (fun _ hk => hk) trivial (Below.refl _ _) (Nat.le_refl _) (by simp) ?_; (case hd => rfl); (case hg => rfl); (case hr => first | (go_simp; done) | (go_simp; rfl)); (case hp => exact (Reps.none _ _)); intro v422 w27 ho28 hb hg_ hnew_; clear hg_ hnew_; (first | rw [← Ny421.out] at ho28 | (simp only [Int.reduceToNat] at ho28; rw [← Ny421.out] at ho28)); have n0_ := Aside0.mk (Kd.R_lower ho28 (below_size (by repeat (first | (with_reducible first | exact HB.out | apply below_alloc | apply pw_below_drewN | apply below_drew1) | exact HB.out)))); have n1_ := Aside0.mk (below_step (by repeat (first | (with_reducible first | exact HB.out | apply below_alloc | apply pw_below_drewN | apply below_drew1) | exact HB.out)) hb); clear HB; have HO423 := n0_; have HB := n1_; clear n0_ n1_; clear hb ho28) | ((with_reducible refine gate_builtin (b := .append) (xs := #[.tmp 12, .tmp 13]) rfl ?_); at_builtin; refine Kd.R_append_rows (Kd.int .u8) (w0 := w) w.heap.size rfl (.tmp 12) (.tmp 13) 23 5 (.int .u8 0) 1 rfl Tryd.underlying23 info5 rfl (by decide) (by omega) v422 y421 l0 _ _ _ (fun _ => True) (fun _ => False) rfl rfl ?aO ?aR (fun _ _ h => h) (fun _ h => h.elim) ?aF ?aB ?aS ?aL ?_; (case aR => repeat (first | exact (Kd.C_below HR0.out HB.out) | (with_reducible refine Kd.C_alloc ?_ _) | (with_reducible refine Kd.C_drewN ?_ _) | (with_reducible refine Kd.C_drew ?_))); (case aB => exact (by repeat (first | (with_reducible first | exact HB.out | apply below_alloc | apply pw_below_drewN | apply below_drew1) | exact HB.out))); (case aF => exact (fun _ _ => trivial)); (case aO => exact (by (with_reducible repeat (first | apply Kd.R_alloc | apply Kd.R_drewN | apply Kd.R_drew)); exact HO423.out)); (case aS => exact (below_size (by repeat (first | (with_reducible first | exact HB.out | apply below_alloc | apply pw_below_drewN | apply below_drew1) | exact HB.out)))); (case aL => have := LMc3.out; omega); intro v425 w29 ho hb hg hat; rw [← Ny424.out] at ho; have n0_ := Aside0.mk (hb); have n1_ := Aside0.mk (ho); clear HB; clear HO423; have HB := n0_; have HO426 := n1_; clear n0_ n1_; clear ho hb hg hat; obtain ⟨Ao30, co30, eo30⟩ := Kd.R_slice HO426.out; subst eo30) | ((with_reducible refine gate_callee (f := 19) rfl ?_); refine goesL_ (some 17) rfl rfl Tryd.func19 (by kernel_rfl) rfl #[.slice Ao30 y424.length co30] rfl (by (try simp only [List.map_toArray, List.map_cons, List.map_nil]); first | done | rfl | (simp only [List.length_drop, List.length_take]; rfl)) ?_; (with_reducible refine (tsz_Decode.calls _ _ y424 t427 t428 _ ?side1 ?side2 A4.out ?sideL).mono ?_); (case sideL => exact Ld.LaidW.below HL.out (by repeat (first | (with_reducible first | exact HB.out | apply below_alloc | apply pw_below_drewN | apply below_drew1) | exact HB.out))); (case side1 => repeat (first | exact (Kd.R_reads' HO426.out).2.2 | (with_reducible refine Kd.C_alloc ?_ _) | (with_reducible refine Kd.C_drewN ?_ _) | (with_reducible refine Kd.C_drew ?_))); (case side2 => exact (Kd.R_reads' HO426.out).2.1); rintro e w31 ⟨v429, rfl, ho0, hb⟩; refine ⟨_, rfl, ?_⟩; have n0_ := Aside0.mk (Kd.R_below (by (with_reducible repeat (first | apply Kd.R_alloc | apply Kd.R_drewN | apply Kd.R_drew)); exact HO426.out) hb); have n1_ := Aside0.mk (Kd.R_lower ho0 (below_size (by repeat (first | (with_reducible first | exact HB.out | apply below_alloc | apply pw_below_drewN | apply below_drew1) | exact HB.out)))); have n2_ := Aside0.mk (below_step (by repeat (first | (with_reducible first | exact HB.out | apply below_alloc | apply pw_below_drewN | apply below_drew1) | exact HB.out)) hb); clear HO426; clear HB; have HO426 := n0_; have HO430 := n1_; have HB := n2_; clear n0_ n1_ n2_; (try clear hb); (try clear hb2); (try clear hk); (try clear hi); (try clear ho0)) | ((with_reducible refine gate_callee (f := 20) rfl ?_); refine goesL_ (some 22) rfl rfl Tryd.func20 (by kernel_rfl) rfl #[.slice A0 l0.length c0] rfl (by (try simp only [List.map_toArray, List.map_cons, List.map_nil]); first | done | rfl | (simp only [List.length_drop, List.length_take]; rfl)) ?_; (with_reducible refine (thermographref05_Decode.calls _ _ l0 t431 t432 _ ?side1 ?side2 A5.out).mono ?_); (case side1 => repeat (first | exact (Kd.C_below HR0.out HB.out) | (with_reducible refine Kd.C_alloc ?_ _) | (with_reducible refine Kd.C_drewN ?_ _) | (with_reducible refine Kd.C_drew ?_))); (case side2 => exact HC0.out); rintro e w32 ⟨v433, rfl, ho0, hb⟩; refine ⟨_, rfl, ?_⟩; have n0_ := Aside0.mk (Kd.R_below (by (with_reducible repeat (first | apply Kd.R_alloc | apply Kd.R_drewN | apply Kd.R_drew)); exact HO426.out) hb); have n1_ := Aside0.mk (Kd.R_elder' (by (with_reducible repeat (first | apply Kd.R_alloc | apply Kd.R_drewN | apply Kd.R_drew)); exact HO430.out) (Kd.R_base ho0) hb); have n2_ := Aside0.mk (Kd.R_lower (Kd.R_new' ho0 (Kd.R_lt (by (with_reducible repeat (first | apply Kd.R_alloc | apply Kd.R_drewN | apply Kd.R_drew)); exact HO430.out))) (below_size (by repeat (first | (with_reducible first | exact HB.out | apply below_alloc | apply pw_below_drewN | apply below_drew1) | exact HB.out)))); have n3_ := Aside0.mk (below_step (by repeat (first | (with_reducible first | exact HB.out | apply below_alloc | apply pw_below_drewN | apply below_drew1) | exact HB.out)) hb); clear HO426; clear HO430; clear HB; have HO426 := n0_; have HO430 := n1_; have HO434 := n2_; have HB := n3_; clear n0_ n1_ n2_ n3_; (try clear hb); (try clear hb2); (try clear hk); (try clear hi); (try clear ho0)))
        go_ret
        exact ⟨by first | rfl | (simp [errW_none, errW_some] <;> rfl) | (simp [*, errW_none, errW_some] <;> rfl), by repeat (first | (with_reducible first | exact HB.out | apply below_alloc | apply pw_below_drewN | apply below_drew1) | exact HB.out)⟩
    · rw [if_neg c3] at H
      exact absurd H (by simp)
end Go.Proofs.YtmnlbedgkjnodaaDoor.QB
namespace Go.Proofs.YtmnlbedgkjnodaaDoor.TrT
open Go.RowKit Go.Proofs.YtmnlbedgkjnodaaDoorW.PrintWords Go.Proofs.YtmnlbedgkjnodaaDoorW.PrintLast Go.Proofs.YtmnlbedgkjnodaaDoorW.PrintMore Go.Proofs.YtmnlbedgkjnodaaDoor.QB Go.Proofs.YtmnlbedgkjnodaaDoor.Bt Go.Proofs.YtmnlbedgkjnodaaDoor.TzP Go.Proofs.YtmnlbedgkjnodaaDoor.TeP Go.Proofs.YtmnlbedgkjnodaaDoor.TdW Go.Proofs.YtmnlbedgkjnodaaDoor.Uv Go.Proofs.YtmnlbedgkjnodaaDoor.UvP Go.Proofs.YtmnlbedgkjnodaaDoor.RfW Go.Proofs.YtmnlbedgkjnodaaDoor.TeK Go.Proofs.YtmnlbedgkjnodaaDoor.TdS Go.Proofs.YtmnlbedgkjnodaaDoor.TrP
theorem TszDecodes_f {l : List Int} (hb : ∀ x ∈ l, 0 ≤ x ∧ x < 256) : thermographlaw05_TszDecodes.f 10000 l = some true := by
  unfold thermographlaw05_TszDecodes.f
  by_cases hl : (l.length : Int) > 65536
  · rw [if_pos hl]
  rw [if_neg hl]
  simp only [Option.bind_some, List.nil_append, List.length_nil, Nat.zero_add]
  rw [if_pos (by omega), tsz_Decode.f_eq (by omega) hb]
  simp only [Option.bind_some]
  rw [thermographref05_Decode.f_eq (by omega) hb, same_dec (by omega)]
  simp only [Option.bind_some]
  have hlen : (decP l).1.length ≤ 512 := by
    rcases dec_cases l with h | ⟨m, h⟩
    · rw [h]; exact Nat.zero_le _
    · rw [h]
      exact (checkF_zero (dec_ok (by omega) h).2.1).1
  rw [if_pos trivial, same_refl (by omega) (by omega)]
  simp only [Option.bind_some, if_pos, beq_self_eq_true]
theorem TszDecodes_calls (W : World) (a0 : Option Addr) (cap0 : Nat) (l0 : List Int) (hc0 : l0.length ≤ cap0) (hr0 : Kd.C (Kd.int .u8) W a0 l0.length l0) (hw0 : ∀ x ∈ l0, (Lit.int .u8 x).wf = true) (hs0 : l0.length * 1 ≤ 140737488351232) (hL : Ld.LaidW W) :
    Calls Tryd.prog 8 #[.slice a0 l0.length cap0] W fun e w' => e = .returned (.bool true) ∧ Below W.heap.size W w' :=
  thermographlaw05_TszDecodes.calls 10000 a0 cap0 l0 true W hr0 hc0 (TszDecodes_f fun x hx => by
    have := hw0 x hx
    simp [Lit.wf, IntKind.min, IntKind.max, IntKind.signed, IntKind.bits] at this
    omega) hL
end Go.Proofs.YtmnlbedgkjnodaaDoor.TrT
