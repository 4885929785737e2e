/- Both decoders of points in plain words: they agree.
   What functions of the translation come to, each as a Lean function, and a proof that the call comes to just that; or a law's row, out of its plain law. Written by mp.py, a program of this session, which runs the printer of the kit with stand-in bodies for some library functions.
   The law TszOne, as a statement on lists, and its call. -/
import Derived.Test.YtmnlbedgkjnodaaDoorZTszOne19
import Derived.Test.YtmnlbedgkjnodaaDoorZTszOne7
import Derived.Test.YtmnlbedgkjnodaaDoorZTszOne8
import Derived.Test.YtmnlbedgkjnodaaDoorZTszOne0
import Derived.Test.YtmnlbedgkjnodaaDoorZTszOne1
import Derived.Test.YtmnlbedgkjnodaaDoorZTszOne16
set_option linter.unusedSimpArgs false
set_option linter.unusedVariables false
namespace Go.Proofs.YtmnlbedgkjnodaaDoor.TrP
open Go.RowKit Go.Proofs.YtmnlbedgkjnodaaDoorW.PrintWords Go.Proofs.YtmnlbedgkjnodaaDoorW.PrintLast Go.Proofs.YtmnlbedgkjnodaaDoorW.PrintMore Go.Proofs.YtmnlbedgkjnodaaDoor.QB Go.Proofs.YtmnlbedgkjnodaaDoor.Bt Go.Proofs.YtmnlbedgkjnodaaDoor.RdW Go.Proofs.YtmnlbedgkjnodaaDoor.TzP Go.Proofs.YtmnlbedgkjnodaaDoor.TzW Go.Proofs.YtmnlbedgkjnodaaDoor.TeP Go.Proofs.YtmnlbedgkjnodaaDoor.TeW Go.Proofs.YtmnlbedgkjnodaaDoor.TdP Go.Proofs.YtmnlbedgkjnodaaDoor.Uv Go.Proofs.YtmnlbedgkjnodaaDoor.UvP Go.Proofs.YtmnlbedgkjnodaaDoor.RfW Go.Proofs.YtmnlbedgkjnodaaDoor.TeK Go.Proofs.YtmnlbedgkjnodaaDoor.TdS
def at_ (b : List Int) (p : Nat) : RS := ((unpk b).drop p, false)
theorem get_sim {b : List Int} {p m : Nat} {n : Int} {r : Nat × Nat} (hn : n.toNat = m) (h : gb b p m = some r) : getR (at_ b p) n = (r.1, at_ b r.2) := by
  unfold gb at h
  split at h
  · rename_i hle
    cases h
    unfold getR at_
    simp only [hn]
    rw [if_pos (by rw [List.length_drop, unpk_length]; exact hle), List.drop_drop]
    rfl
  · cases h
theorem time_sim {b : List Int} {p : Nat} {r : Int × Nat} (h : timeP b p = some r) : timeR (at_ b p) = (r.1, at_ b r.2) := by
  unfold timeP at h
  obtain ⟨r1, g1, h⟩ := Option.bind_eq_some_iff.1 h
  unfold timeR
  rw [get_sim (n := 1) rfl g1]
  simp only
  split at h
  · rename_i c
    rw [if_pos c]
    cases h
    rfl
  rename_i c
  rw [if_neg c]
  unfold formsP at h
  rw [timeGo] at h
  obtain ⟨r2, g2, h⟩ := Option.bind_eq_some_iff.1 h
  rw [get_sim (n := 1) rfl g2]
  simp only
  split at h
  · rename_i c2
    rw [if_pos c2]
    obtain ⟨u, g, h⟩ := Option.map_eq_some_iff.1 h
    rw [get_sim (n := 7) rfl g]
    cases h
    rfl
  rename_i c2
  rw [if_neg c2]
  rw [timeGo] at h
  obtain ⟨r3, g3, h⟩ := Option.bind_eq_some_iff.1 h
  rw [get_sim (n := 1) rfl g3]
  simp only
  split at h
  · rename_i c3
    rw [if_pos c3]
    obtain ⟨u, g, h⟩ := Option.map_eq_some_iff.1 h
    rw [get_sim (n := 9) rfl g]
    cases h
    rfl
  rename_i c3
  rw [if_neg c3]
  rw [timeGo] at h
  obtain ⟨r4, g4, h⟩ := Option.bind_eq_some_iff.1 h
  rw [get_sim (n := 1) rfl g4]
  simp only
  split at h
  · rename_i c4
    rw [if_pos c4]
    obtain ⟨u, g, h⟩ := Option.map_eq_some_iff.1 h
    rw [get_sim (n := 12) rfl g]
    cases h
    rfl
  rename_i c4
  rw [if_neg c4]
  rw [timeGo] at h
  obtain ⟨u, g, h⟩ := Option.map_eq_some_iff.1 h
  rw [get_sim (n := 64) rfl g]
  cases h
  rfl
theorem fin_sim {b : List Int} {p a t : Nat} {r : (Nat × Win) × Nat} (h : finP b p a t = some r) : heldR (at_ b p) (some (a, t)) = (r.1, at_ b r.2) := by
  unfold finP at h
  obtain ⟨u, g, h⟩ := Option.map_eq_some_iff.1 h
  unfold heldR
  simp only
  rw [get_sim (n := ((64 - a - t : Nat) : Int)) (Int.toNat_natCast _) g]
  cases h
  rfl
theorem value_sim {b : List Int} {p : Nat} {x : Win} {r : (Nat × Win) × Nat} (h : valueP b p x = some r) : valueR (at_ b p) x = (r.1, at_ b r.2) := by
  unfold valueP at h
  obtain ⟨r1, g1, h⟩ := Option.bind_eq_some_iff.1 h
  unfold valueR
  rw [get_sim (n := 1) rfl g1]
  simp only
  split at h
  · rename_i c
    rw [if_pos c]
    cases h
    rfl
  rename_i c
  rw [if_neg c]
  obtain ⟨r2, g2, h⟩ := Option.bind_eq_some_iff.1 h
  rw [get_sim (n := 1) rfl g2]
  simp only
  split at h
  · rename_i c2
    rw [if_pos c2]
    unfold wideP at h
    obtain ⟨a, g3, h⟩ := Option.bind_eq_some_iff.1 h
    obtain ⟨n, g4, h⟩ := Option.bind_eq_some_iff.1 h
    rw [get_sim (n := 5) rfl g3]
    simp only
    rw [get_sim (n := 6) rfl g4]
    simp only
    split at h
    · cases h
    · rename_i c3
      rw [if_neg c3]
      exact fin_sim h
  · rename_i c2
    rw [if_neg c2]
    cases x with
    | none => cases h
    | some w => exact fin_sim h
theorem go_sim (b : List Int) : ∀ (m : Nat) (l : List Pt) (st : St) (p : Nat) (r : List Pt), goP b m l st p = some r → ∃ q, goR m l st.1 st.2.1 st.2.2 (at_ b p) = (r, at_ b q)
  | 0, l, st, p, r, h => by cases h; exact ⟨p, rfl⟩
  | m + 1, l, (d, vw, sw), p, r, h => by
    rw [goP] at h
    rw [goR, if_neg (by simp [at_])]
    split at h
    · rename_i c
      obtain ⟨⟨pt, q⟩, g, h⟩ := Option.bind_eq_some_iff.1 h
      unfold headP at g
      obtain ⟨t, g1, g⟩ := Option.bind_eq_some_iff.1 g
      obtain ⟨v, g2, g⟩ := Option.bind_eq_some_iff.1 g
      obtain ⟨s, g3, g⟩ := Option.map_eq_some_iff.1 g
      have e : roundR (at_ b p) l d vw sw = ((pt, d, vw, sw), at_ b q) := by
        unfold roundR
        rw [if_pos c, get_sim (n := 64) rfl g1]
        simp only
        rw [get_sim (n := 64) rfl g2]
        simp only
        rw [get_sim (n := 64) rfl g3]
        cases g
        rfl
      rw [e]
      exact go_sim b m _ (d, vw, sw) q r h
    · rename_i c
      obtain ⟨⟨⟨pt, d2, vw2, sw2⟩, q⟩, g, h⟩ := Option.bind_eq_some_iff.1 h
      unfold nextP at g
      obtain ⟨x, g1, g⟩ := Option.bind_eq_some_iff.1 g
      obtain ⟨y, g2, g⟩ := Option.bind_eq_some_iff.1 g
      obtain ⟨z, g3, g⟩ := Option.map_eq_some_iff.1 g
      simp only at g2 g3
      have e : roundR (at_ b p) l d vw sw = ((pt, d2, vw2, sw2), at_ b q) := by
        unfold roundR
        rw [if_neg c, time_sim g1]
        simp only
        rw [value_sim g2]
        simp only
        rw [value_sim g3]
        cases g
        rfl
      rw [e]
      exact go_sim b m _ (d2, vw2, sw2) q r h
theorem round_ok {s : RS} {l : List Pt} {d : Int} {vw sw : Win} (hs : FineS s) (hl : OkL l) (hv : vw.Ok) (hw : sw.Ok) : okPt (roundR s l d vw sw).1.1 ∧ (roundR s l d vw sw).1.2.2.1.Ok ∧ (roundR s l d vw sw).1.2.2.2.Ok ∧ FineS (roundR s l d vw sw).2 := by
  unfold roundR
  split
  · have h2 : (getR (getR s 64).2 64).1 < 18446744073709551616 := getR_lt (getR_fine hs _) 64
    have h3 : (getR (getR (getR s 64).2 64).2 64).1 < 18446744073709551616 := getR_lt (getR_fine (getR_fine hs _) _) 64
    exact ⟨⟨wrap64_range _, ⟨by simp only; omega, by simp only; omega⟩, ⟨by simp only; omega, by simp only; omega⟩⟩, hv, hw, getR_fine (getR_fine (getR_fine hs _) _) _⟩
  · obtain ⟨a1, a2, a3⟩ := valueR_ok (timeR_fine hs) hv
    obtain ⟨b1, b2, b3⟩ := valueR_ok a3 hw
    obtain ⟨_, hV, hS⟩ := getD_ok hl (l.length - 1)
    have x1 := Nat.xor_lt_two_pow (n := 64) (x := (l.getD (l.length - 1) zp).f1.toNat) (by omega) a1
    have x2 := Nat.xor_lt_two_pow (n := 64) (x := (l.getD (l.length - 1) zp).f2.toNat) (by omega) b1
    exact ⟨⟨wrap64_range _, ⟨by simp only; omega, by simp only; omega⟩, ⟨by simp only; omega, by simp only; omega⟩⟩, a2, b2, b3⟩
theorem goR_ok : ∀ (m : Nat) (l : List Pt) (d : Int) (vw sw : Win) (s : RS), FineS s → OkL l → vw.Ok → sw.Ok → OkL (goR m l d vw sw s).1
  | 0, l, d, vw, sw, s, hs, hl, hv, hw => hl
  | m + 1, l, d, vw, sw, s, hs, hl, hv, hw => by
    rw [goR]
    split
    · exact hl
    · obtain ⟨h1, h2, h3, h4⟩ := round_ok (d := d) hs hl hv hw
      exact goR_ok m _ _ _ _ _ h4 (TdW.okL_snoc hl h1) h2 h3
theorem pointsP_ok {b : List Int} (hb : b.length ≤ 1000000) {n : Nat} {l : List Pt} (h : pointsP b n = some l) : OkL l := by
  obtain ⟨q, e⟩ := go_sim b n [] st0 0 l h
  have := goR_ok n [] 0 none none (at_ b 0) ⟨(unpk_isBits b).drop 0, by simp only [at_, List.length_drop, unpk_length]; omega⟩ (fun p hp => by cases hp) Win.ok_none Win.ok_none
  have e2 : goR n [] 0 none none (at_ b 0) = (l, at_ b q) := e
  rw [e2] at this
  exact this
theorem dec_cases (b : List Int) : TdW.decP b = ([], 50) ∨ ∃ l, TdW.decP b = (l, 0) := by
  unfold TdW.decP
  split
  · exact .inl rfl
  split
  · exact .inl rfl
  split
  · exact .inr ⟨_, rfl⟩
  · exact .inl rfl
theorem enc_back {l : List Pt} {b : List Int} (h : (encT l).2 = 0 ∧ (encT l).1 = b) : checkF l = 0 ∧ encB l = b := by
  have h1 : checkF l = 0 := by rw [← encT_snd]; exact h.1
  refine ⟨h1, ?_⟩
  rw [← h.2, encT_ok h1]
theorem dec_ok {b : List Int} {l : List Pt} (hb : b.length ≤ 1000000) (h : TdW.decP b = (l, 0)) : OkL l ∧ checkF l = 0 ∧ encB l = b := by
  unfold TdW.decP at h
  split at h
  · cases h
  split at h
  · cases h
  rename_i l2 hp
  split at h
  · rename_i c
    cases h
    exact ⟨pointsP_ok (by rw [List.length_drop]; omega) hp, enc_back c⟩
  · cases h
theorem ref_cases (b : List Int) : refD b = ([], 50) ∨ ∃ l, refD b = (l, 0) := by
  unfold refD
  split
  · exact .inl rfl
  split
  · exact .inr ⟨_, rfl⟩
  · exact .inl rfl
theorem seen_fine (b : List Int) : FineS (seenR b) := by
  refine ⟨unpk_isBits _, ?_⟩
  unfold seenR
  simp only [unpk_length, List.length_drop, List.length_take]
  omega
theorem ref_ok {b : List Int} {l : List Pt} (h : refD b = (l, 0)) : OkL l ∧ checkF l = 0 ∧ encB l = b := by
  unfold refD at h
  split at h
  · cases h
  split at h
  · rename_i c
    have hok := goR_ok (ruv b).1.toNat [] 0 none none (seenR b) (seen_fine b) (fun p hp => by cases hp) Win.ok_none Win.ok_none
    cases h
    exact ⟨hok, enc_back c.2⟩
  · cases h
theorem ref_enc {l : List Pt} (hk : checkF l = 0) (hok : OkL l) : refD (encB l) = (l, 0) := by
  obtain ⟨hn, _, _⟩ := checkF_zero hk
  have hs := encB_small hk
  obtain ⟨h1, h2⟩ := dec_at hk hok []
  rw [List.append_nil] at h1 h2
  rw [h2] at h1
  simp only [Int.toNat_natCast] at h1
  obtain ⟨q, e⟩ := go_sim _ _ _ _ _ _ h1
  have hse : seenR (encB l) = at_ ((encB l).drop (uv l.length).length) 0 := by
    unfold seenR at_
    rw [h2]
    simp only [Int.toNat_natCast]
    rw [List.take_of_length_le (by omega), List.drop_zero]
  have e2 : goR l.length [] 0 none none (seenR (encB l)) = (l, at_ ((encB l).drop (uv l.length).length) q) := by rw [hse]; exact e
  have hp := uv_pos l.length
  unfold refD
  rw [h2]
  simp only [Int.toNat_natCast]
  rw [if_neg (by omega), e2]
  simp only
  rw [if_pos ⟨rfl, by rw [encT_ok hk], by rw [encT_ok hk]⟩]
theorem same_dec {b : List Int} (hb : b.length ≤ 1000000) : refD b = TdW.decP b := by
  rcases dec_cases b with h | ⟨l, h⟩
  · rcases ref_cases b with h2 | ⟨l, h2⟩
    · rw [h, h2]
    · obtain ⟨hok, hk, he⟩ := ref_ok h2
      rw [← he, dec_enc hk hok, ref_enc hk hok]
  · obtain ⟨hok, hk, he⟩ := dec_ok hb h
    rw [← he, dec_enc hk hok, ref_enc hk hok]
theorem enc_prefix {l l2 : List Pt} {x y : List Int} (hk : checkF l = 0) (hok : OkL l) (hk2 : checkF l2 = 0) (hok2 : OkL l2) (h : encB l ++ x = encB l2 ++ y) : l = l2 ∧ x = y := by
  obtain ⟨h1, h2⟩ := dec_at hk hok x
  obtain ⟨h3, h4⟩ := dec_at hk2 hok2 y
  rw [h] at h1
  rw [h1] at h3
  have e : l = l2 := Option.some.inj h3
  subst e
  exact ⟨rfl, List.append_cancel_left h⟩
end Go.Proofs.YtmnlbedgkjnodaaDoor.TrP
namespace Go.Proofs.YtmnlbedgkjnodaaDoor.QB
open Go.RowKit Go.Proofs.YtmnlbedgkjnodaaDoorW.PrintWords Go.Proofs.YtmnlbedgkjnodaaDoorW.PrintLast Go.Proofs.YtmnlbedgkjnodaaDoorW.PrintMore
attribute [local go_sem] max2_int min2_int max_two min_two max_three min_three max_four min_four   -- for this text's walks alone
def thermographlaw05_TszOne.j0 : Nat → List Int → Int → List Int → Bool → Option (Bool)
  | 0, _, _, _, _ => none
  | k + 1, x0, x1, x2, x25 => if x25 = true then (some true) else ((tsz_Decode.f x0).bind fun bt446 => ((thermographref05_Decode.f x0).bind fun bt450 => (if bt446.2 = bt450.2 then (if bt446.2 = 0 then ((tsz_Encode.f bt446.1).bind fun bt454 => (if (x0.length : Int) = 0 then (none) else (if 0 ≤ (Int.tmod (wrap64 ((Int.tmod x1 (x0.length : Int)) + (x0.length : Int))) (x0.length : Int)) then (if (Int.tmod (wrap64 ((Int.tmod x1 (x0.length : Int)) + (x0.length : Int))) (x0.length : Int)) ≤ (x0.length : Int) then ((tsz_Decode.f (x0.take ((Int.tmod (wrap64 ((Int.tmod x1 (x0.length : Int)) + (x0.length : Int))) (x0.length : Int)) : Int).toNat)).bind fun bt459 => ((some (([] : List Int) : List Int)).bind fun y463 => (if y463.length + x0.length < 140737488355328 then ((some (y463 ++ x0 : List Int)).bind fun y466 => (if y466.length + x2.length < 140737488355328 then ((tsz_Decode.f (y466 ++ x2)).bind fun bt472 => (if bt454.2 = 0 then (if (strOfNums bt454.1).toList = (strOfNums x0).toList then (if bt459.2 = 50 then (some ((bt472.2 == 0) == ((x2.length : Int) == 0))) else (some false)) else (some false)) else (some false))) else (none))) else (none)))) else (none)) else (none)))) else (some ((bt446.1.length : Int) == 0))) else (some false))))
def thermographlaw05_TszOne.f (k : Nat) (l0 : List Int) (a1 : Int) (l2 : List Int) : Option (Bool) := if (l0.length : Int) > 65536 then (thermographlaw05_TszOne.j0 k l0 a1 l2 true) else (thermographlaw05_TszOne.j0 k l0 a1 l2 (decide ((l2.length : Int) > 4096)))
set_option maxHeartbeats 8000000 in
set_option maxRecDepth 100000 in
theorem thermographlaw05_TszOne.calls (k : Nat) (A0 : Option Addr) (c0 : Nat) (l0 : List Int) (a1 : Int) (A2 : Option Addr) (c2 : Nat) (l2 : List Int) (r : Bool) (w : World) (hr0 : Kd.C (Kd.int .u8) w A0 l0.length l0) (hc0 : l0.length ≤ c0) (hr2 : Kd.C (Kd.int .u8) w A2 l2.length l2) (hc2 : l2.length ≤ c2) (h : thermographlaw05_TszOne.f k l0 a1 l2 = some r) (hL : Ld.LaidW w) :
    Calls Tryd.prog 10 #[.slice A0 l0.length c0, .int .i64 a1, .slice A2 l2.length c2] w fun e w' => e = .returned (.bool r) ∧ Below w.heap.size w w' := by
  have HL := Aside0.mk hL
  clear hL
  have HR0 := Aside0.mk hr0
  have HC0 := Aside0.mk hc0
  clear hr0 hc0
  have HR2 := Aside0.mk hr2
  have HC2 := Aside0.mk hc2
  clear hr2 hc2
  have HB := Aside0.mk (Below.refl w.heap.size w)
  have H : (if (l0.length : Int) > 65536 then (thermographlaw05_TszOne.j0 k l0 a1 l2 true) else (thermographlaw05_TszOne.j0 k l0 a1 l2 (decide ((l2.length : Int) > 4096)))) = some r := h
  clear h
  have HC4 := Aside0.mk H
  clear H
  go_enter Tryd.func10, Tryd.ntmps10
  go_upto_region 1 with (fail)
  go_cut [25] (fun v25 wc => ∃ (kq : Nat) (x25_3 : Bool), v25 = .bool x25_3 ∧ Aside0 (thermographlaw05_TszOne.j0 kq l0 a1 l2 x25_3 = some r) ∧ Aside0 (kq ≤ k) ∧ Aside0 (Below w.heap.size w wc))
  case first =>
    have H := HC4.out
    clear HC4
    by_cases c5 : (l0.length : Int) > 65536
    · rw [if_pos c5] at H
      have c5b0 : decide (65536 < (l0.length : Int)) = true := decide_eq_true c5
      have c5b1 : decide (65536 < l0.length) = true := decide_eq_true (by omega)
      clear c5
      (first | rw [c5b0] | (simp only [i64_w, i32_w]; rw [c5b0]) | skip)
      have H' := Aside0.mk H
      clear H
      go_wp2
      go_meet
      case rel => exact ⟨_, (true), (by first | rfl | (simp; done) | (simp [*]; done)), H', ⟨by first | omega | exact Nat.le_refl _⟩, ⟨by repeat (first | (with_reducible first | exact HB.out | apply below_alloc | apply pw_below_drewN | apply below_drew1) | exact HB.out)⟩⟩
    · rw [if_neg c5] at H
      have c5b0 : decide (65536 < (l0.length : Int)) = false := decide_eq_false c5
      have c5b1 : decide (65536 < l0.length) = false := decide_eq_false (by omega)
      clear c5
      (first | rw [c5b0] | (simp only [i64_w, i32_w]; rw [c5b0]) | skip)
      have H' := Aside0.mk H
      clear H
      go_wp2
      go_meet
      case rel => exact ⟨_, (decide ((l2.length : Int) > 4096)), (by first | rfl | (simp; done) | (simp [*]; done)), H', ⟨by first | omega | exact Nat.le_refl _⟩, ⟨by repeat (first | (with_reducible first | exact HB.out | apply below_alloc | apply pw_below_drewN | apply below_drew1) | exact HB.out)⟩⟩
  case rest =>
    clear HC4
    try clear c1
    try clear c2
    try clear p2
    try clear c5
    try clear c5b0
    try clear c5b1
    obtain ⟨kq, x25_3, rfl, HA, HJ3, HB⟩ := hcut
    cases kq with
    | zero => exact absurd HA.out (by simp [thermographlaw05_TszOne.j0])
    | succ kj3 =>
      have H := HA.out
      clear HA
      simp only [thermographlaw05_TszOne.j0] at H
      by_cases c6 : x25_3 = true
      · subst c6
        have H1 : (some true) = some r := by rw [if_pos rfl] at H; exact H
        clear H
        have H := H1
        clear H1
        obtain rfl := Option.some.inj H
        go_wp2
        go_ret
        exact ⟨by first | rfl | (simp [errW_none, errW_some] <;> rfl) | (simp [*, errW_none, errW_some] <;> rfl), by repeat (first | (with_reducible first | exact HB.out | apply below_alloc | apply pw_below_drewN | apply below_drew1) | exact HB.out)⟩
      · replace c6 := Bool.eq_false_iff.mpr c6
        subst c6
        have H1 : ((tsz_Decode.f l0).bind fun bt446 => ((thermographref05_Decode.f l0).bind fun bt450 => (if bt446.2 = bt450.2 then (if bt446.2 = 0 then ((tsz_Encode.f bt446.1).bind fun bt454 => (if (l0.length : Int) = 0 then (none) else (if 0 ≤ (Int.tmod (wrap64 ((Int.tmod a1 (l0.length : Int)) + (l0.length : Int))) (l0.length : Int)) then (if (Int.tmod (wrap64 ((Int.tmod a1 (l0.length : Int)) + (l0.length : Int))) (l0.length : Int)) ≤ (l0.length : Int) then ((tsz_Decode.f (l0.take ((Int.tmod (wrap64 ((Int.tmod a1 (l0.length : Int)) + (l0.length : Int))) (l0.length : Int)) : Int).toNat)).bind fun bt459 => ((some (([] : List Int) : List Int)).bind fun y463 => (if y463.length + l0.length < 140737488355328 then ((some (y463 ++ l0 : List Int)).bind fun y466 => (if y466.length + l2.length < 140737488355328 then ((tsz_Decode.f (y466 ++ l2)).bind fun bt472 => (if bt454.2 = 0 then (if (strOfNums bt454.1).toList = (strOfNums l0).toList then (if bt459.2 = 50 then (some ((bt472.2 == 0) == ((l2.length : Int) == 0))) else (some false)) else (some false)) else (some false))) else (none))) else (none)))) else (none)) else (none)))) else (some ((bt446.1.length : Int) == 0))) else (some false)))) = some r := by rw [if_neg (show ¬ (false = true) by decide)] at H; exact H
        clear H
        have H := H1
        clear H1
        replace H := Option.bind_eq_some_iff.mp H
        obtain ⟨⟨t446, t447⟩, A70, H⟩ := H
        replace H : ((thermographref05_Decode.f l0).bind fun bt450 => (if t447 = bt450.2 then (if t447 = 0 then ((tsz_Encode.f t446).bind fun bt454 => (if (l0.length : Int) = 0 then (none) else (if 0 ≤ (Int.tmod (wrap64 ((Int.tmod a1 (l0.length : Int)) + (l0.length : Int))) (l0.length : Int)) then (if (Int.tmod (wrap64 ((Int.tmod a1 (l0.length : Int)) + (l0.length : Int))) (l0.length : Int)) ≤ (l0.length : Int) then ((tsz_Decode.f (l0.take ((Int.tmod (wrap64 ((Int.tmod a1 (l0.length : Int)) + (l0.length : Int))) (l0.length : Int)) : Int).toNat)).bind fun bt459 => ((some (([] : List Int) : List Int)).bind fun y463 => (if y463.length + l0.length < 140737488355328 then ((some (y463 ++ l0 : List Int)).bind fun y466 => (if y466.length + l2.length < 140737488355328 then ((tsz_Decode.f (y466 ++ l2)).bind fun bt472 => (if bt454.2 = 0 then (if (strOfNums bt454.1).toList = (strOfNums l0).toList then (if bt459.2 = 50 then (some ((bt472.2 == 0) == ((l2.length : Int) == 0))) else (some false)) else (some false)) else (some false))) else (none))) else (none)))) else (none)) else (none)))) else (some ((t446.length : Int) == 0))) else (some false))) = some r := H
        have A7 := Aside0.mk A70
        clear A70
        replace H := Option.bind_eq_some_iff.mp H
        obtain ⟨⟨t450, t451⟩, A80, H⟩ := H
        replace H : (if t447 = t451 then (if t447 = 0 then ((tsz_Encode.f t446).bind fun bt454 => (if (l0.length : Int) = 0 then (none) else (if 0 ≤ (Int.tmod (wrap64 ((Int.tmod a1 (l0.length : Int)) + (l0.length : Int))) (l0.length : Int)) then (if (Int.tmod (wrap64 ((Int.tmod a1 (l0.length : Int)) + (l0.length : Int))) (l0.length : Int)) ≤ (l0.length : Int) then ((tsz_Decode.f (l0.take ((Int.tmod (wrap64 ((Int.tmod a1 (l0.length : Int)) + (l0.length : Int))) (l0.length : Int)) : Int).toNat)).bind fun bt459 => ((some (([] : List Int) : List Int)).bind fun y463 => (if y463.length + l0.length < 140737488355328 then ((some (y463 ++ l0 : List Int)).bind fun y466 => (if y466.length + l2.length < 140737488355328 then ((tsz_Decode.f (y466 ++ l2)).bind fun bt472 => (if bt454.2 = 0 then (if (strOfNums bt454.1).toList = (strOfNums l0).toList then (if bt459.2 = 50 then (some ((bt472.2 == 0) == ((l2.length : Int) == 0))) else (some false)) else (some false)) else (some false))) else (none))) else (none)))) else (none)) else (none)))) else (some ((t446.length : Int) == 0))) else (some false)) = some r := H
        have A8 := Aside0.mk A80
        clear A80
        by_cases c9 : t447 = t451
        · rw [if_pos c9] at H
          have c9b0 : (t447 == t451) = true := beq_iff_eq.mpr c9
          have c9b1 : (t447 != t451) = false := bne_eq_false_iff_eq.mpr c9
          clear c9
          by_cases c10 : t447 = 0
          · rw [if_pos c10] at H
            have c10b0 : (t447 == 0) = true := beq_iff_eq.mpr c10
            have c10b1 : (t447 != 0) = false := bne_eq_false_iff_eq.mpr c10
            clear c10
            replace H := Option.bind_eq_some_iff.mp H
            obtain ⟨⟨t454, t455⟩, A110, H⟩ := H
            replace H : (if (l0.length : Int) = 0 then (none) else (if 0 ≤ (Int.tmod (wrap64 ((Int.tmod a1 (l0.length : Int)) + (l0.length : Int))) (l0.length : Int)) then (if (Int.tmod (wrap64 ((Int.tmod a1 (l0.length : Int)) + (l0.length : Int))) (l0.length : Int)) ≤ (l0.length : Int) then ((tsz_Decode.f (l0.take ((Int.tmod (wrap64 ((Int.tmod a1 (l0.length : Int)) + (l0.length : Int))) (l0.length : Int)) : Int).toNat)).bind fun bt459 => ((some (([] : List Int) : List Int)).bind fun y463 => (if y463.length + l0.length < 140737488355328 then ((some (y463 ++ l0 : List Int)).bind fun y466 => (if y466.length + l2.length < 140737488355328 then ((tsz_Decode.f (y466 ++ l2)).bind fun bt472 => (if t455 = 0 then (if (strOfNums t454).toList = (strOfNums l0).toList then (if bt459.2 = 50 then (some ((bt472.2 == 0) == ((l2.length : Int) == 0))) else (some false)) else (some false)) else (some false))) else (none))) else (none)))) else (none)) else (none))) = some r := H
            have A11 := Aside0.mk A110
            clear A110
            by_cases c12 : (l0.length : Int) = 0
            · rw [if_pos c12] at H
              exact absurd H (by simp)
            · rw [if_neg c12] at H
              have c12b0 : ((l0.length : Int) == 0) = false := beq_eq_false_iff_ne.mpr c12
              have c12b1 : ((l0.length : Int) != 0) = true := bne_iff_ne.mpr c12
              have c12b2 : ¬ (l0 = []) := fun h_ => c12 (by rw [h_]; rfl)
              obtain ⟨ji13, hji13⟩ : ∃ j_ : Int, (Int.tmod (wrap64 ((Int.tmod a1 (l0.length : Int)) + (l0.length : Int))) (l0.length : Int)) = j_ := ⟨_, rfl⟩
              replace H : (if 0 ≤ (ji13) then (if (ji13) ≤ (l0.length : Int) then ((tsz_Decode.f (l0.take ((ji13) : Int).toNat)).bind fun bt459 => ((some (([] : List Int) : List Int)).bind fun y463 => (if y463.length + l0.length < 140737488355328 then ((some (y463 ++ l0 : List Int)).bind fun y466 => (if y466.length + l2.length < 140737488355328 then ((tsz_Decode.f (y466 ++ l2)).bind fun bt472 => (if t455 = 0 then (if (strOfNums t454).toList = (strOfNums l0).toList then (if bt459.2 = 50 then (some ((bt472.2 == 0) == ((l2.length : Int) == 0))) else (some false)) else (some false)) else (some false))) else (none))) else (none)))) else (none)) else (none)) = some r := by first | (rw [hji13] at H; exact H) | (simp only [hji13] at H ⊢; exact H)
              (try rw [hji13] at A7)
              (try rw [hji13] at A8)
              (try rw [hji13] at A11)
              by_cases c14 : 0 ≤ (ji13)
              · rw [if_pos c14] at H
                have c14b0 := eq_true c14
                have c14b1 : decide (0 ≤ (ji13)) = true := decide_eq_true c14
                clear c14
                by_cases c15 : (ji13) ≤ (l0.length : Int)
                · rw [if_pos c15] at H
                  have c15b0 := eq_true c15
                  have c15b1 : decide ((ji13) ≤ (l0.length : Int)) = true := decide_eq_true c15
                  clear c15
                  replace H := Option.bind_eq_some_iff.mp H
                  obtain ⟨⟨t459, t460⟩, A160, H⟩ := H
                  replace H : ((some (([] : List Int) : List Int)).bind fun y463 => (if y463.length + l0.length < 140737488355328 then ((some (y463 ++ l0 : List Int)).bind fun y466 => (if y466.length + l2.length < 140737488355328 then ((tsz_Decode.f (y466 ++ l2)).bind fun bt472 => (if t455 = 0 then (if (strOfNums t454).toList = (strOfNums l0).toList then (if t460 = 50 then (some ((bt472.2 == 0) == ((l2.length : Int) == 0))) else (some false)) else (some false)) else (some false))) else (none))) else (none))) = some r := H
                  have A16 := Aside0.mk A160
                  clear A160
                  obtain ⟨y463, hy463⟩ : ∃ y_ : List Int, y_ = (([] : List Int)) := ⟨_, rfl⟩
                  replace H : (if y463.length + l0.length < 140737488355328 then ((some (y463 ++ l0 : List Int)).bind fun y466 => (if y466.length + l2.length < 140737488355328 then ((tsz_Decode.f (y466 ++ l2)).bind fun bt472 => (if t455 = 0 then (if (strOfNums t454).toList = (strOfNums l0).toList then (if t460 = 50 then (some ((bt472.2 == 0) == ((l2.length : Int) == 0))) else (some false)) else (some false)) else (some false))) else (none))) else (none)) = some r := by first | (rw [hy463]; with_reducible exact H) | (have H2_ := (Option.bind_some _ _).symm.trans H; rw [hy463]; with_reducible exact H2_) | (have H2_ := (Option.bind_some _ _).symm.trans H; with_reducible exact H2_) | with_reducible exact H | (rw [hy463]; exact H) | exact H
                  have Ny463 := Aside0.mk hy463
                  clear hy463
                  by_cases c17 : y463.length + l0.length < 140737488355328
                  · rw [if_pos c17] at H
                    have LMc17 := Aside0.mk c17
                    clear c17
                    obtain ⟨y466, hy466⟩ : ∃ y_ : List Int, y_ = (y463 ++ l0) := ⟨_, rfl⟩
                    replace H : (if y466.length + l2.length < 140737488355328 then ((tsz_Decode.f (y466 ++ l2)).bind fun bt472 => (if t455 = 0 then (if (strOfNums t454).toList = (strOfNums l0).toList then (if t460 = 50 then (some ((bt472.2 == 0) == ((l2.length : Int) == 0))) else (some false)) else (some false)) else (some false))) else (none)) = some r := by first | (rw [hy466]; with_reducible exact H) | (have H2_ := (Option.bind_some _ _).symm.trans H; rw [hy466]; with_reducible exact H2_) | (have H2_ := (Option.bind_some _ _).symm.trans H; with_reducible exact H2_) | with_reducible exact H | (rw [hy466]; exact H) | exact H
                    have Ny466 := Aside0.mk hy466
                    clear hy466
                    by_cases c18 : y466.length + l2.length < 140737488355328
                    · rw [if_pos c18] at H
                      have LMc18 := Aside0.mk c18
                      clear c18
                      obtain ⟨y469, hy469⟩ : ∃ y_ : List Int, y_ = (y466 ++ l2) := ⟨_, rfl⟩
                      replace H : ((tsz_Decode.f y469).bind fun bt472 => (if t455 = 0 then (if (strOfNums t454).toList = (strOfNums l0).toList then (if t460 = 50 then (some ((bt472.2 == 0) == ((l2.length : Int) == 0))) else (some false)) else (some false)) else (some false))) = some r := by first | (rw [hy469]; with_reducible exact H) | (have H2_ := (Option.bind_some _ _).symm.trans H; rw [hy469]; with_reducible exact H2_) | (have H2_ := (Option.bind_some _ _).symm.trans H; with_reducible exact H2_) | with_reducible exact H | (rw [hy469]; exact H) | exact H
                      have Ny469 := Aside0.mk hy469
                      clear hy469
                      replace H := Option.bind_eq_some_iff.mp H
                      obtain ⟨⟨t472, t473⟩, A190, H⟩ := H
                      replace H : (if t455 = 0 then (if (strOfNums t454).toList = (strOfNums l0).toList then (if t460 = 50 then (some ((t473 == 0) == ((l2.length : Int) == 0))) else (some false)) else (some false)) else (some false)) = some r := H
                      have A19 := Aside0.mk A190
                      clear A190
                      by_cases c20 : t455 = 0
                      case' neg =>
                        rw [if_neg c20] at H
                        have c20b0 : (t455 == 0) = false := beq_eq_false_iff_ne.mpr c20
                        have c20b1 : (t455 != 0) = true := bne_iff_ne.mpr c20
                        obtain rfl := Option.some.inj H
                      case' pos =>
                        rw [if_pos c20] at H
                        have c20b0 : (t455 == 0) = true := beq_iff_eq.mpr c20
                        have c20b1 : (t455 != 0) = false := bne_eq_false_iff_eq.mpr c20
                        clear c20
                        by_cases c21 : (strOfNums t454).toList = (strOfNums l0).toList
                        case' neg =>
                          rw [if_neg c21] at H
                          have c21b0 : ((strOfNums t454).toList == (strOfNums l0).toList) = false := beq_eq_false_iff_ne.mpr c21
                          have c21b1 : ((strOfNums t454).toList != (strOfNums l0).toList) = true := bne_iff_ne.mpr c21
                          obtain rfl := Option.some.inj H
                        case' pos =>
                          rw [if_pos c21] at H
                          have c21b0 : ((strOfNums t454).toList == (strOfNums l0).toList) = true := beq_iff_eq.mpr c21
                          have c21b1 : ((strOfNums t454).toList != (strOfNums l0).toList) = false := bne_eq_false_iff_eq.mpr c21
                          clear c21
                          by_cases c22 : t460 = 50
                          case' neg =>
                            rw [if_neg c22] at H
                            have c22b0 : (t460 == 50) = false := beq_eq_false_iff_ne.mpr c22
                            have c22b1 : (t460 != 50) = true := bne_iff_ne.mpr c22
                            obtain rfl := Option.some.inj H
                          case' pos =>
                            rw [if_pos c22] at H
                            have c22b0 : (t460 == 50) = true := beq_iff_eq.mpr c22
                            have c22b1 : (t460 != 50) = false := bne_eq_false_iff_eq.mpr c22
                            clear c22
                            obtain rfl := Option.some.inj H
                      all_goals
                        go_wp2_with (first | ((with_reducible refine gate_callee (f := 19) rfl ?_); refine goesL_ (some 28) rfl rfl Tryd.func19 (by kernel_rfl) rfl #[.slice A0 l0.length c0] rfl (by (try simp only [List.map_toArray, List.map_cons, List.map_nil]); first | done | rfl | (simp only [List.length_drop, List.length_take]; rfl)) ?_; (with_reducible refine (tsz_Decode.calls _ _ l0 t446 t447 _ ?side1 ?side2 A7.out ?sideL).mono ?_); (case sideL => exact Ld.LaidW.below HL.out (by repeat (first | (with_reducible first | exact HB.out | apply below_alloc | apply pw_below_drewN | apply below_drew1) | exact HB.out))); (case side1 => repeat (first | exact (Kd.C_below HR0.out HB.out) | (with_reducible refine Kd.C_alloc ?_ _) | (with_reducible refine Kd.C_drewN ?_ _) | (with_reducible refine Kd.C_drew ?_))); (case side2 => exact HC0.out); rintro e w23 ⟨v448, rfl, ho0, hb⟩; refine ⟨_, rfl, ?_⟩; have n0_ := Aside0.mk (Kd.R_lower ho0 (below_size (by repeat (first | (with_reducible first | exact HB.out | apply below_alloc | apply pw_below_drewN | apply below_drew1) | exact HB.out)))); have n1_ := Aside0.mk (below_step (by repeat (first | (with_reducible first | exact HB.out | apply below_alloc | apply pw_below_drewN | apply below_drew1) | exact HB.out)) hb); clear HB; have HO449 := n0_; have HB := n1_; clear n0_ n1_; (try clear hb); (try clear hb2); (try clear hk); (try clear hi); (try clear ho0)) | ((with_reducible refine gate_callee (f := 20) rfl ?_); refine goesL_ (some 33) rfl rfl Tryd.func20 (by kernel_rfl) rfl #[.slice A0 l0.length c0] rfl (by (try simp only [List.map_toArray, List.map_cons, List.map_nil]); first | done | rfl | (simp only [List.length_drop, List.length_take]; rfl)) ?_; (with_reducible refine (thermographref05_Decode.calls _ _ l0 t450 t451 _ ?side1 ?side2 A8.out).mono ?_); (case side1 => repeat (first | exact (Kd.C_below HR0.out HB.out) | (with_reducible refine Kd.C_alloc ?_ _) | (with_reducible refine Kd.C_drewN ?_ _) | (with_reducible refine Kd.C_drew ?_))); (case side2 => exact HC0.out); rintro e w24 ⟨v452, rfl, ho0, hb⟩; refine ⟨_, rfl, ?_⟩; have n0_ := Aside0.mk (Kd.R_elder' (by (with_reducible repeat (first | apply Kd.R_alloc | apply Kd.R_drewN | apply Kd.R_drew)); exact HO449.out) (Kd.R_base ho0) hb); have n1_ := Aside0.mk (Kd.R_lower (Kd.R_new' ho0 (Kd.R_lt (by (with_reducible repeat (first | apply Kd.R_alloc | apply Kd.R_drewN | apply Kd.R_drew)); exact HO449.out))) (below_size (by repeat (first | (with_reducible first | exact HB.out | apply below_alloc | apply pw_below_drewN | apply below_drew1) | exact HB.out)))); have n2_ := Aside0.mk (below_step (by repeat (first | (with_reducible first | exact HB.out | apply below_alloc | apply pw_below_drewN | apply below_drew1) | exact HB.out)) hb); clear HO449; clear HB; have HO449 := n0_; have HO453 := n1_; have HB := n2_; clear n0_ n1_ n2_; (try clear hb); (try clear hb2); (try clear hk); (try clear hi); (try clear ho0); obtain ⟨Ao25, co25, eo25⟩ := Kd.R_slice HO449.out; subst eo25) | ((with_reducible refine gate_callee (f := 11) rfl ?_); refine goesL_ (some 46) rfl rfl Tryd.func11 (by kernel_rfl) rfl #[.slice Ao25 t446.length co25] rfl (by (try simp only [List.map_toArray, List.map_cons, List.map_nil]); first | done | rfl | (simp only [List.length_drop, List.length_take]; rfl)) ?_; (with_reducible refine (tsz_Encode.calls _ _ t446 t454 t455 _ ?side1 ?side2 A11.out ?sideL).mono ?_); (case sideL => exact Ld.LaidW.below HL.out (by repeat (first | (with_reducible first | exact HB.out | apply below_alloc | apply pw_below_drewN | apply below_drew1) | exact HB.out))); (case side1 => repeat (first | exact (Kd.R_reads' HO449.out).2.2 | (with_reducible refine Kd.C_alloc ?_ _) | (with_reducible refine Kd.C_drewN ?_ _) | (with_reducible refine Kd.C_drew ?_))); (case side2 => exact (Kd.R_reads' HO449.out).2.1); rintro e w26 ⟨v456, rfl, ho0, hb⟩; refine ⟨_, rfl, ?_⟩; have n0_ := Aside0.mk (Kd.R_below (by (with_reducible repeat (first | apply Kd.R_alloc | apply Kd.R_drewN | apply Kd.R_drew)); exact HO449.out) hb); have n1_ := Aside0.mk (Kd.R_below (by (with_reducible repeat (first | apply Kd.R_alloc | apply Kd.R_drewN | apply Kd.R_drew)); exact HO453.out) hb); have n2_ := Aside0.mk (Kd.R_lower ho0 (below_size (by repeat (first | (with_reducible first | exact HB.out | apply below_alloc | apply pw_below_drewN | apply below_drew1) | exact HB.out)))); have n3_ := Aside0.mk (below_step (by repeat (first | (with_reducible first | exact HB.out | apply below_alloc | apply pw_below_drewN | apply below_drew1) | exact HB.out)) hb); clear HO449; clear HO453; clear HB; have HO449 := n0_; have HO453 := n1_; have HO457 := n2_; have HB := n3_; clear n0_ n1_ n2_ n3_; (try clear hb); (try clear hb2); (try clear hk); (try clear hi); (try clear ho0); obtain ⟨i027, hi027, _, hsz27, _⟩ := info_parts info5; obtain ⟨hcut27, hA27, hC27⟩ := print_take_of (P := Tryd.prog) (Value.int .u8) 0 23 5 .i64 Tryd.underlying23 hi027 hsz27 A0 c0 l0 (ji13) (of_decide_eq_true (by first | (with_reducible assumption) | assumption)) (of_decide_eq_true (by first | (with_reducible assumption) | assumption)) HC0.out; have HR458 := Aside0.mk (Kd.C_of_reads (h1 := fun _ => rfl) (hA27 _ (Kd.reads_of_C HR0.out))); have HC458 := Aside0.mk hC27; clear hA27 hC27 hi027 hsz27) | ((with_reducible refine gate_callee (f := 19) rfl ?_); refine goesL_ (some 63) rfl rfl Tryd.func19 (by kernel_rfl) rfl #[.slice A0 (l0.take ((ji13) : Int).toNat).length c0] rfl (by (try simp only [List.map_toArray, List.map_cons, List.map_nil]); first | done | (rw [show (l0.take ((ji13) : Int).toNat).length = (ji13).toNat from (by rw [List.length_take]; have h_ : ((ji13) : Int) ≤ (l0.length : Int) := of_decide_eq_true (by first | (with_reducible assumption) | assumption); omega)] <;> rfl) | (simp only [hji13]; rfl) | rfl | (simp only [List.length_drop, List.length_take]; rfl)) ?_; (with_reducible refine (tsz_Decode.calls _ _ (l0.take ((ji13) : Int).toNat) t459 t460 _ ?side1 ?side2 A16.out ?sideL).mono ?_); (case sideL => exact Ld.LaidW.below HL.out (by repeat (first | (with_reducible first | exact HB.out | apply below_alloc | apply pw_below_drewN | apply below_drew1) | exact HB.out))); (case side1 => repeat (first | exact (Kd.C_below HR458.out HB.out) | (with_reducible refine Kd.C_alloc ?_ _) | (with_reducible refine Kd.C_drewN ?_ _) | (with_reducible refine Kd.C_drew ?_))); (case side2 => exact HC458.out); rintro e w28 ⟨v461, rfl, ho0, hb⟩; refine ⟨_, rfl, ?_⟩; have n0_ := Aside0.mk (Kd.R_elder' (by (with_reducible repeat (first | apply Kd.R_alloc | apply Kd.R_drewN | apply Kd.R_drew)); exact HO449.out) (Kd.R_base ho0) hb); have n1_ := Aside0.mk (Kd.R_elder' (by (with_reducible repeat (first | apply Kd.R_alloc | apply Kd.R_drewN | apply Kd.R_drew)); exact HO453.out) (Kd.R_base ho0) hb); have n2_ := Aside0.mk (Kd.R_below (by (with_reducible repeat (first | apply Kd.R_alloc | apply Kd.R_drewN | apply Kd.R_drew)); exact HO457.out) hb); have n3_ := Aside0.mk (Kd.R_lower (Kd.R_new' (Kd.R_new' ho0 (Kd.R_lt (by (with_reducible repeat (first | apply Kd.R_alloc | apply Kd.R_drewN | apply Kd.R_drew)); exact HO449.out))) (Kd.R_lt (by (with_reducible repeat (first | apply Kd.R_alloc | apply Kd.R_drewN | apply Kd.R_drew)); exact HO453.out))) (below_size (by repeat (first | (with_reducible first | exact HB.out | apply below_alloc | apply pw_below_drewN | apply below_drew1) | exact HB.out)))); have n4_ := Aside0.mk (below_step (by repeat (first | (with_reducible first | exact HB.out | apply below_alloc | apply pw_below_drewN | apply below_drew1) | exact HB.out)) hb); clear HO449; clear HO453; clear HO457; clear HB; have HO449 := n0_; have HO453 := n1_; have HO457 := n2_; have HO462 := n3_; have HB := n4_; clear n0_ n1_ n2_ n3_ n4_; (try clear hb); (try clear hb2); (try clear hk); (try clear hi); (try clear ho0)) | ((with_reducible refine gate_dst (N := 66) rfl ?_); (try (refine gate_guard (by rfl) ?_; dsimp only)); refine Kd.R_lit (Kd.int .u8) _ 5 ?hg (N := 66) ?hd (xs := ([] : List Int)) (inner := []) (ok := fun _ => True) (okp := fun _ => True) ?hr ?hp (fun _ hk => hk) trivial (Below.refl _ _) (Nat.le_refl _) (by simp) ?_; (case hd => rfl); (case hg => rfl); (case hr => first | (go_simp; done) | (go_simp; rfl)); (case hp => exact (Reps.none _ _)); intro v464 w29 ho30 hb hg_ hnew_; clear hg_ hnew_; (first | rw [← Ny463.out] at ho30 | (simp only [Int.reduceToNat] at ho30; rw [← Ny463.out] at ho30)); have n0_ := Aside0.mk (Kd.R_below (by (with_reducible repeat (first | apply Kd.R_alloc | apply Kd.R_drewN | apply Kd.R_drew)); exact HO449.out) hb); have n1_ := Aside0.mk (Kd.R_below (by (with_reducible repeat (first | apply Kd.R_alloc | apply Kd.R_drewN | apply Kd.R_drew)); exact HO453.out) hb); have n2_ := Aside0.mk (Kd.R_elder' (by (with_reducible repeat (first | apply Kd.R_alloc | apply Kd.R_drewN | apply Kd.R_drew)); exact HO457.out) (Kd.R_base ho30) hb); have n3_ := Aside0.mk (Kd.R_below (by (with_reducible repeat (first | apply Kd.R_alloc | apply Kd.R_drewN | apply Kd.R_drew)); exact HO462.out) hb); have n4_ := Aside0.mk (Kd.R_lower (Kd.R_new' ho30 (Kd.R_lt (by (with_reducible repeat (first | apply Kd.R_alloc | apply Kd.R_drewN | apply Kd.R_drew)); exact HO457.out))) (below_size (by repeat (first | (with_reducible first | exact HB.out | apply below_alloc | apply pw_below_drewN | apply below_drew1) | exact HB.out)))); have n5_ := Aside0.mk (below_step (by repeat (first | (with_reducible first | exact HB.out | apply below_alloc | apply pw_below_drewN | apply below_drew1) | exact HB.out)) hb); clear HO449; clear HO453; clear HO457; clear HO462; clear HB; have HO449 := n0_; have HO453 := n1_; have HO457 := n2_; have HO462 := n3_; have HO465 := n4_; have HB := n5_; clear n0_ n1_ n2_ n3_ n4_ n5_; clear hb ho30) | ((with_reducible refine gate_builtin (b := .append) (xs := #[.tmp 67, .tmp 68]) rfl ?_); (try (refine gate_guard (by rfl) ?_; dsimp only)); at_builtin; refine Kd.R_append_rows (Kd.int .u8) (w0 := w) w.heap.size rfl (.tmp 67) (.tmp 68) 23 5 (.int .u8 0) 1 rfl Tryd.underlying23 info5 rfl (by decide) (by omega) v464 y463 l0 _ _ _ (fun k_ => some k_ ≠ (v456 : Value).ownBlock) (fun _ => False) rfl rfl ?aO ?aR (fun _ _ h => h) (fun _ h => h.elim) ?aF ?aB ?aS ?aL ?_; (case aR => repeat (first | exact (Kd.C_below HR0.out HB.out) | (with_reducible refine Kd.C_alloc ?_ _) | (with_reducible refine Kd.C_drewN ?_ _) | (with_reducible refine Kd.C_drew ?_))); (case aB => exact (by repeat (first | (with_reducible first | exact HB.out | apply below_alloc | apply pw_below_drewN | apply below_drew1) | exact HB.out))); (case aF => exact (fun k_ hk => Kd.fresh' (Kd.R_lt (by (with_reducible repeat (first | apply Kd.R_alloc | apply Kd.R_drewN | apply Kd.R_drew)); exact HO457.out)) k_ hk)); (case aO => exact (by (with_reducible repeat (first | apply Kd.R_alloc | apply Kd.R_drewN | apply Kd.R_drew)); exact Kd.R_mono HO465.out (fun _ hk => hk.2))); (case aS => exact (below_size (by repeat (first | (with_reducible first | exact HB.out | apply below_alloc | apply pw_below_drewN | apply below_drew1) | exact HB.out)))); (case aL => have := LMc17.out; omega); intro v467 w31 ho hb hg hat; rw [← Ny466.out] at ho; have n0_ := Aside0.mk (Kd.R_over' (by (with_reducible repeat (first | apply Kd.R_alloc | apply Kd.R_drewN | apply Kd.R_drew)); exact HO449.out) (Kd.R_typed (by (with_reducible repeat (first | apply Kd.R_alloc | apply Kd.R_drewN | apply Kd.R_drew)); exact HO465.out)) (by decide) hg); have n1_ := Aside0.mk (Kd.R_over' (by (with_reducible repeat (first | apply Kd.R_alloc | apply Kd.R_drewN | apply Kd.R_drew)); exact HO453.out) (Kd.R_typed (by (with_reducible repeat (first | apply Kd.R_alloc | apply Kd.R_drewN | apply Kd.R_drew)); exact HO465.out)) (by decide) hg); have n2_ := Aside0.mk (Kd.R_after (ok := (fun _ => True)) (by (with_reducible repeat (first | apply Kd.R_alloc | apply Kd.R_drewN | apply Kd.R_drew)); exact HO457.out) hg hat); have n3_ := Aside0.mk (Kd.R_over' (by (with_reducible repeat (first | apply Kd.R_alloc | apply Kd.R_drewN | apply Kd.R_drew)); exact HO462.out) (Kd.R_typed (by (with_reducible repeat (first | apply Kd.R_alloc | apply Kd.R_drewN | apply Kd.R_drew)); exact HO465.out)) (by decide) hg); have n4_ := Aside0.mk (hb); have n5_ := Aside0.mk (ho); clear HO449; clear HO453; clear HO457; clear HO462; clear HB; clear HO465; have HO449 := n0_; have HO453 := n1_; have HO457 := n2_; have HO462 := n3_; have HB := n4_; have HO468 := n5_; clear n0_ n1_ n2_ n3_ n4_ n5_; clear ho hb hg hat) | ((with_reducible refine gate_builtin (b := .append) (xs := #[.tmp 71, .tmp 72]) rfl ?_); (try (refine gate_guard (by rfl) ?_; dsimp only)); at_builtin; refine Kd.R_append_rows (Kd.int .u8) (w0 := w) w.heap.size rfl (.tmp 71) (.tmp 72) 23 5 (.int .u8 0) 1 rfl Tryd.underlying23 info5 rfl (by decide) (by omega) v467 y466 l2 _ _ _ (fun k_ => some k_ ≠ (v456 : Value).ownBlock) (fun _ => False) rfl rfl ?aO ?aR (fun _ _ h => h) (fun _ h => h.elim) ?aF ?aB ?aS ?aL ?_; (case aR => repeat (first | exact (Kd.C_below HR2.out HB.out) | (with_reducible refine Kd.C_alloc ?_ _) | (with_reducible refine Kd.C_drewN ?_ _) | (with_reducible refine Kd.C_drew ?_))); (case aB => exact (by repeat (first | (with_reducible first | exact HB.out | apply below_alloc | apply pw_below_drewN | apply below_drew1) | exact HB.out))); (case aF => exact (fun k_ hk => Kd.fresh' (Kd.R_lt (by (with_reducible repeat (first | apply Kd.R_alloc | apply Kd.R_drewN | apply Kd.R_drew)); exact HO457.out)) k_ hk)); (case aO => exact (by (with_reducible repeat (first | apply Kd.R_alloc | apply Kd.R_drewN | apply Kd.R_drew)); exact HO468.out)); (case aS => exact (below_size (by repeat (first | (with_reducible first | exact HB.out | apply below_alloc | apply pw_below_drewN | apply below_drew1) | exact HB.out)))); (case aL => have := LMc18.out; omega); intro v470 w32 ho hb hg hat; rw [← Ny469.out] at ho; have n0_ := Aside0.mk (Kd.R_over' (by (with_reducible repeat (first | apply Kd.R_alloc | apply Kd.R_drewN | apply Kd.R_drew)); exact HO449.out) (Kd.R_typed (by (with_reducible repeat (first | apply Kd.R_alloc | apply Kd.R_drewN | apply Kd.R_drew)); exact HO468.out)) (by decide) hg); have n1_ := Aside0.mk (Kd.R_over' (by (with_reducible repeat (first | apply Kd.R_alloc | apply Kd.R_drewN | apply Kd.R_drew)); exact HO453.out) (Kd.R_typed (by (with_reducible repeat (first | apply Kd.R_alloc | apply Kd.R_drewN | apply Kd.R_drew)); exact HO468.out)) (by decide) hg); have n2_ := Aside0.mk (Kd.R_after (ok := (fun _ => True)) (by (with_reducible repeat (first | apply Kd.R_alloc | apply Kd.R_drewN | apply Kd.R_drew)); exact HO457.out) hg hat); have n3_ := Aside0.mk (Kd.R_over' (by (with_reducible repeat (first | apply Kd.R_alloc | apply Kd.R_drewN | apply Kd.R_drew)); exact HO462.out) (Kd.R_typed (by (with_reducible repeat (first | apply Kd.R_alloc | apply Kd.R_drewN | apply Kd.R_drew)); exact HO468.out)) (by decide) hg); have n4_ := Aside0.mk (hb); have n5_ := Aside0.mk (ho); clear HO449; clear HO453; clear HO457; clear HO462; clear HB; clear HO468; have HO449 := n0_; have HO453 := n1_; have HO457 := n2_; have HO462 := n3_; have HB := n4_; have HO471 := n5_; clear n0_ n1_ n2_ n3_ n4_ n5_; clear ho hb hg hat; obtain ⟨Ao33, co33, eo33⟩ := Kd.R_slice HO471.out; subst eo33) | ((with_reducible refine gate_callee (f := 19) rfl ?_); refine goesL_ (some 74) rfl rfl Tryd.func19 (by kernel_rfl) rfl #[.slice Ao33 y469.length co33] rfl (by (try simp only [List.map_toArray, List.map_cons, List.map_nil]); first | done | rfl | (simp only [List.length_drop, List.length_take]; rfl)) ?_; (with_reducible refine (tsz_Decode.calls _ _ y469 t472 t473 _ ?side1 ?side2 A19.out ?sideL).mono ?_); (case sideL => exact Ld.LaidW.below HL.out (by repeat (first | (with_reducible first | exact HB.out | apply below_alloc | apply pw_below_drewN | apply below_drew1) | exact HB.out))); (case side1 => repeat (first | exact (Kd.R_reads' HO471.out).2.2 | (with_reducible refine Kd.C_alloc ?_ _) | (with_reducible refine Kd.C_drewN ?_ _) | (with_reducible refine Kd.C_drew ?_))); (case side2 => exact (Kd.R_reads' HO471.out).2.1); rintro e w34 ⟨v474, rfl, ho0, hb⟩; refine ⟨_, rfl, ?_⟩; have n0_ := Aside0.mk (Kd.R_elder' (by (with_reducible repeat (first | apply Kd.R_alloc | apply Kd.R_drewN | apply Kd.R_drew)); exact HO449.out) (Kd.R_base ho0) hb); have n1_ := Aside0.mk (Kd.R_elder' (by (with_reducible repeat (first | apply Kd.R_alloc | apply Kd.R_drewN | apply Kd.R_drew)); exact HO453.out) (Kd.R_base ho0) hb); have n2_ := Aside0.mk (Kd.R_below (by (with_reducible repeat (first | apply Kd.R_alloc | apply Kd.R_drewN | apply Kd.R_drew)); exact HO457.out) hb); have n3_ := Aside0.mk (Kd.R_elder' (by (with_reducible repeat (first | apply Kd.R_alloc | apply Kd.R_drewN | apply Kd.R_drew)); exact HO462.out) (Kd.R_base ho0) hb); have n4_ := Aside0.mk (Kd.R_below (by (with_reducible repeat (first | apply Kd.R_alloc | apply Kd.R_drewN | apply Kd.R_drew)); exact HO471.out) hb); have n5_ := Aside0.mk (Kd.R_lower (Kd.R_new' (Kd.R_new' (Kd.R_new' ho0 (Kd.R_lt (by (with_reducible repeat (first | apply Kd.R_alloc | apply Kd.R_drewN | apply Kd.R_drew)); exact HO449.out))) (Kd.R_lt (by (with_reducible repeat (first | apply Kd.R_alloc | apply Kd.R_drewN | apply Kd.R_drew)); exact HO453.out))) (Kd.R_lt (by (with_reducible repeat (first | apply Kd.R_alloc | apply Kd.R_drewN | apply Kd.R_drew)); exact HO462.out))) (below_size (by repeat (first | (with_reducible first | exact HB.out | apply below_alloc | apply pw_below_drewN | apply below_drew1) | exact HB.out)))); have n6_ := Aside0.mk (below_step (by repeat (first | (with_reducible first | exact HB.out | apply below_alloc | apply pw_below_drewN | apply below_drew1) | exact HB.out)) hb); clear HO449; clear HO453; clear HO457; clear HO462; clear HO471; clear HB; have HO449 := n0_; have HO453 := n1_; have HO457 := n2_; have HO462 := n3_; have HO471 := n4_; have HO475 := n5_; have HB := n6_; clear n0_ n1_ n2_ n3_ n4_ n5_ n6_; (try clear hb); (try clear hb2); (try clear hk); (try clear hi); (try clear ho0); have hcv35 := own_string (P := Tryd.prog) Tryd.underlying23 Tryd.underlying5 Tryd.underlying9 (Kd.own_of_R HO457.out); have hcv36 := Kd.C_string (P := Tryd.prog) (A := A0) (c := c0) Tryd.underlying23 Tryd.underlying5 Tryd.underlying9 (Kd.C_below HR0.out HB.out)))
                        go_ret
                        exact ⟨by first | rfl | (simp [errW_none, errW_some] <;> rfl) | (simp only [← hji13]; first | rfl | (simp [errW_none, errW_some] <;> rfl)) | (simp [*, errW_none, errW_some] <;> rfl), by repeat (first | (with_reducible first | exact HB.out | apply below_alloc | apply pw_below_drewN | apply below_drew1) | exact HB.out)⟩
                    · rw [if_neg c18] at H
                      exact absurd H (by simp)
                  · rw [if_neg c17] at H
                    exact absurd H (by simp)
                · rw [if_neg c15] at H
                  exact absurd H (by simp)
              · rw [if_neg c14] at H
                exact absurd H (by simp)
          · rw [if_neg c10] at H
            have c10b0 : (t447 == 0) = false := beq_eq_false_iff_ne.mpr c10
            have c10b1 : (t447 != 0) = true := bne_iff_ne.mpr c10
            obtain rfl := Option.some.inj H
            go_wp2_with (first | ((with_reducible refine gate_callee (f := 19) rfl ?_); refine goesL_ (some 28) rfl rfl Tryd.func19 (by kernel_rfl) rfl #[.slice A0 l0.length c0] rfl (by (try simp only [List.map_toArray, List.map_cons, List.map_nil]); first | done | rfl | (simp only [List.length_drop, List.length_take]; rfl)) ?_; (with_reducible refine (tsz_Decode.calls _ _ l0 t446 t447 _ ?side1 ?side2 A7.out ?sideL).mono ?_); (case sideL => exact Ld.LaidW.below HL.out (by repeat (first | (with_reducible first | exact HB.out | apply below_alloc | apply pw_below_drewN | apply below_drew1) | exact HB.out))); (case side1 => repeat (first | exact (Kd.C_below HR0.out HB.out) | (with_reducible refine Kd.C_alloc ?_ _) | (with_reducible refine Kd.C_drewN ?_ _) | (with_reducible refine Kd.C_drew ?_))); (case side2 => exact HC0.out); rintro e w77 ⟨v448, rfl, ho0, hb⟩; refine ⟨_, rfl, ?_⟩; have n0_ := Aside0.mk (Kd.R_lower ho0 (below_size (by repeat (first | (with_reducible first | exact HB.out | apply below_alloc | apply pw_below_drewN | apply below_drew1) | exact HB.out)))); have n1_ := Aside0.mk (below_step (by repeat (first | (with_reducible first | exact HB.out | apply below_alloc | apply pw_below_drewN | apply below_drew1) | exact HB.out)) hb); clear HB; have HO449 := n0_; have HB := n1_; clear n0_ n1_; (try clear hb); (try clear hb2); (try clear hk); (try clear hi); (try clear ho0)) | ((with_reducible refine gate_callee (f := 20) rfl ?_); refine goesL_ (some 33) rfl rfl Tryd.func20 (by kernel_rfl) rfl #[.slice A0 l0.length c0] rfl (by (try simp only [List.map_toArray, List.map_cons, List.map_nil]); first | done | rfl | (simp only [List.length_drop, List.length_take]; rfl)) ?_; (with_reducible refine (thermographref05_Decode.calls _ _ l0 t450 t451 _ ?side1 ?side2 A8.out).mono ?_); (case side1 => repeat (first | exact (Kd.C_below HR0.out HB.out) | (with_reducible refine Kd.C_alloc ?_ _) | (with_reducible refine Kd.C_drewN ?_ _) | (with_reducible refine Kd.C_drew ?_))); (case side2 => exact HC0.out); rintro e w78 ⟨v452, rfl, ho0, hb⟩; refine ⟨_, rfl, ?_⟩; have n0_ := Aside0.mk (Kd.R_elder' (by (with_reducible repeat (first | apply Kd.R_alloc | apply Kd.R_drewN | apply Kd.R_drew)); exact HO449.out) (Kd.R_base ho0) hb); have n1_ := Aside0.mk (Kd.R_lower (Kd.R_new' ho0 (Kd.R_lt (by (with_reducible repeat (first | apply Kd.R_alloc | apply Kd.R_drewN | apply Kd.R_drew)); exact HO449.out))) (below_size (by repeat (first | (with_reducible first | exact HB.out | apply below_alloc | apply pw_below_drewN | apply below_drew1) | exact HB.out)))); have n2_ := Aside0.mk (below_step (by repeat (first | (with_reducible first | exact HB.out | apply below_alloc | apply pw_below_drewN | apply below_drew1) | exact HB.out)) hb); clear HO449; clear HB; have HO449 := n0_; have HO453 := n1_; have HB := n2_; clear n0_ n1_ n2_; (try clear hb); (try clear hb2); (try clear hk); (try clear hi); (try clear ho0); obtain ⟨Ao79, co79, eo79⟩ := Kd.R_slice HO449.out; subst eo79))
            go_ret
            exact ⟨by first | rfl | (simp [errW_none, errW_some] <;> rfl) | (simp [*, errW_none, errW_some] <;> rfl), by repeat (first | (with_reducible first | exact HB.out | apply below_alloc | apply pw_below_drewN | apply below_drew1) | exact HB.out)⟩
        · rw [if_neg c9] at H
          have c9b0 : (t447 == t451) = false := beq_eq_false_iff_ne.mpr c9
          have c9b1 : (t447 != t451) = true := bne_iff_ne.mpr c9
          obtain rfl := Option.some.inj H
          go_wp2_with (first | ((with_reducible refine gate_callee (f := 19) rfl ?_); refine goesL_ (some 28) rfl rfl Tryd.func19 (by kernel_rfl) rfl #[.slice A0 l0.length c0] rfl (by (try simp only [List.map_toArray, List.map_cons, List.map_nil]); first | done | rfl | (simp only [List.length_drop, List.length_take]; rfl)) ?_; (with_reducible refine (tsz_Decode.calls _ _ l0 t446 t447 _ ?side1 ?side2 A7.out ?sideL).mono ?_); (case sideL => exact Ld.LaidW.below HL.out (by repeat (first | (with_reducible first | exact HB.out | apply below_alloc | apply pw_below_drewN | apply below_drew1) | exact HB.out))); (case side1 => repeat (first | exact (Kd.C_below HR0.out HB.out) | (with_reducible refine Kd.C_alloc ?_ _) | (with_reducible refine Kd.C_drewN ?_ _) | (with_reducible refine Kd.C_drew ?_))); (case side2 => exact HC0.out); rintro e w80 ⟨v448, rfl, ho0, hb⟩; refine ⟨_, rfl, ?_⟩; have n0_ := Aside0.mk (Kd.R_lower ho0 (below_size (by repeat (first | (with_reducible first | exact HB.out | apply below_alloc | apply pw_below_drewN | apply below_drew1) | exact HB.out)))); have n1_ := Aside0.mk (below_step (by repeat (first | (with_reducible first | exact HB.out | apply below_alloc | apply pw_below_drewN | apply below_drew1) | exact HB.out)) hb); clear HB; have HO449 := n0_; have HB := n1_; clear n0_ n1_; (try clear hb); (try clear hb2); (try clear hk); (try clear hi); (try clear ho0)) | ((with_reducible refine gate_callee (f := 20) rfl ?_); refine goesL_ (some 33) rfl rfl Tryd.func20 (by kernel_rfl) rfl #[.slice A0 l0.length c0] rfl (by (try simp only [List.map_toArray, List.map_cons, List.map_nil]); first | done | rfl | (simp only [List.length_drop, List.length_take]; rfl)) ?_; (with_reducible refine (thermographref05_Decode.calls _ _ l0 t450 t451 _ ?side1 ?side2 A8.out).mono ?_); (case side1 => repeat (first | exact (Kd.C_below HR0.out HB.out) | (with_reducible refine Kd.C_alloc ?_ _) | (with_reducible refine Kd.C_drewN ?_ _) | (with_reducible refine Kd.C_drew ?_))); (case side2 => exact HC0.out); rintro e w81 ⟨v452, rfl, ho0, hb⟩; refine ⟨_, rfl, ?_⟩; have n0_ := Aside0.mk (Kd.R_elder' (by (with_reducible repeat (first | apply Kd.R_alloc | apply Kd.R_drewN | apply Kd.R_drew)); exact HO449.out) (Kd.R_base ho0) hb); have n1_ := Aside0.mk (Kd.R_lower (Kd.R_new' ho0 (Kd.R_lt (by (with_reducible repeat (first | apply Kd.R_alloc | apply Kd.R_drewN | apply Kd.R_drew)); exact HO449.out))) (below_size (by repeat (first | (with_reducible first | exact HB.out | apply below_alloc | apply pw_below_drewN | apply below_drew1) | exact HB.out)))); have n2_ := Aside0.mk (below_step (by repeat (first | (with_reducible first | exact HB.out | apply below_alloc | apply pw_below_drewN | apply below_drew1) | exact HB.out)) hb); clear HO449; clear HB; have HO449 := n0_; have HO453 := n1_; have HB := n2_; clear n0_ n1_ n2_; (try clear hb); (try clear hb2); (try clear hk); (try clear hi); (try clear ho0)))
          go_ret
          exact ⟨by first | rfl | (simp [errW_none, errW_some] <;> rfl) | (simp [*, errW_none, errW_some] <;> rfl), by repeat (first | (with_reducible first | exact HB.out | apply below_alloc | apply pw_below_drewN | apply below_drew1) | exact HB.out)⟩
end Go.Proofs.YtmnlbedgkjnodaaDoor.QB
namespace Go.Proofs.YtmnlbedgkjnodaaDoor.ToT
open Go.RowKit Go.Proofs.YtmnlbedgkjnodaaDoorW.PrintWords Go.Proofs.YtmnlbedgkjnodaaDoorW.PrintLast Go.Proofs.YtmnlbedgkjnodaaDoorW.PrintMore Go.Proofs.YtmnlbedgkjnodaaDoor.QB Go.Proofs.YtmnlbedgkjnodaaDoor.Bt Go.Proofs.YtmnlbedgkjnodaaDoor.TzP Go.Proofs.YtmnlbedgkjnodaaDoor.TeP Go.Proofs.YtmnlbedgkjnodaaDoor.TdW Go.Proofs.YtmnlbedgkjnodaaDoor.Uv Go.Proofs.YtmnlbedgkjnodaaDoor.UvP Go.Proofs.YtmnlbedgkjnodaaDoor.RfW Go.Proofs.YtmnlbedgkjnodaaDoor.TeK Go.Proofs.YtmnlbedgkjnodaaDoor.TdS Go.Proofs.YtmnlbedgkjnodaaDoor.TrP
theorem idx {a n : Int} (hn : 0 < n) (h : n ≤ 100000) : 0 ≤ Int.tmod (wrap64 (Int.tmod a n + n)) n ∧ Int.tmod (wrap64 (Int.tmod a n + n)) n < n := by
  have h1 : Int.tmod a n < n := Int.tmod_lt_of_pos a hn
  have h2 : -n < Int.tmod a n := Int.lt_tmod_of_pos a hn
  have h3 : wrap64 (Int.tmod a n + n) = Int.tmod a n + n := by
    generalize Int.tmod a n = z at h1 h2
    unfold wrap64
    omega
  rw [h3]
  exact ⟨Int.tmod_nonneg _ (by omega), Int.tmod_lt_of_pos _ hn⟩
theorem encB_ne (l : List Pt) : 0 < (encB l).length := by
  unfold encB
  have := uv_pos l.length
  rw [List.length_append]
  omega
theorem dec_more {l : List Pt} {m : List Int} (hl : (encB l ++ m).length ≤ 1000000) (hk : checkF l = 0) (hok : OkL l) (hm : 0 < m.length) : TdW.decP (encB l ++ m) = ([], 50) := by
  rcases dec_cases (encB l ++ m) with h | ⟨l2, h⟩
  · exact h
  · obtain ⟨hok2, hk2, he⟩ := dec_ok hl h
    have := (enc_prefix (x := m) (y := []) hk hok hk2 hok2 (by rw [he, List.append_nil])).2
    subst this
    cases hm
theorem dec_less {l : List Pt} {m : Nat} (hl : (encB l).length ≤ 1000000) (hk : checkF l = 0) (hok : OkL l) (hm : m < (encB l).length) : TdW.decP ((encB l).take m) = ([], 50) := by
  rcases dec_cases ((encB l).take m) with h | ⟨l2, h⟩
  · exact h
  · obtain ⟨hok2, hk2, he⟩ := dec_ok (by rw [List.length_take]; omega) h
    have := (enc_prefix (x := []) (y := (encB l).drop m) hk hok hk2 hok2 (by rw [he, List.append_nil, List.take_append_drop])).2
    have h2 := congrArg List.length this
    rw [List.length_drop] at h2
    simp only [List.length_nil] at h2
    omega
theorem TszOne_f {l m : List Int} (hb : ∀ x ∈ l, 0 ≤ x ∧ x < 256) (hm : ∀ x ∈ m, 0 ≤ x ∧ x < 256) (a1 : Int) : thermographlaw05_TszOne.f 20000 l a1 m = some true := by
  unfold thermographlaw05_TszOne.f
  by_cases hl : (l.length : Int) > 65536
  · rw [if_pos hl, show 20000 = 19999 + 1 from rfl, thermographlaw05_TszOne.j0, if_pos rfl]
  rw [if_neg hl, show 20000 = 19999 + 1 from rfl, thermographlaw05_TszOne.j0]
  by_cases hml : (m.length : Int) > 4096
  · rw [if_pos (decide_eq_true hml)]
  rw [if_neg (by rw [decide_eq_true_iff]; exact hml), tsz_Decode.f_eq (by omega) hb]
  simp only [Option.bind_some]
  rw [thermographref05_Decode.f_eq (by omega) hb, same_dec (by omega)]
  simp only [Option.bind_some]
  rw [if_pos trivial]
  rcases dec_cases l with h | ⟨p, h⟩
  · rw [h]
    simp only
    rw [if_neg (by decide)]
    rfl
  obtain ⟨hok, hk, he⟩ := dec_ok (by omega) h
  have hp := (checkF_zero hk).1
  rw [h]
  simp only
  rw [if_pos trivial, tsz_Encode.f_eq (by omega) hok, encT_ok hk]
  simp only [Option.bind_some]
  have hne : 0 < l.length := by rw [← he]; exact encB_ne p
  rw [if_neg (by omega)]
  obtain ⟨i1, i2⟩ := idx (a := a1) (n := (l.length : Int)) (by omega) (by omega)
  rw [if_pos i1, if_pos (by omega)]
  obtain ⟨q, hq⟩ : ∃ q, (Int.tmod (wrap64 ((Int.tmod a1 (l.length : Int)) + (l.length : Int))) (l.length : Int)).toNat = q := ⟨_, rfl⟩
  rw [hq]
  have hql : q < l.length := by omega
  clear hq i1 i2
  subst he
  rw [tsz_Decode.f_eq (by rw [List.length_take]; omega) (fun x hx => hb x (List.mem_of_mem_take hx)), dec_less (by omega) hk hok hql]
  simp only [Option.bind_some, List.nil_append, List.length_nil, Nat.zero_add]
  rw [if_pos (by omega), if_pos (by omega)]
  rw [tsz_Decode.f_eq (by rw [List.length_append]; omega) (fun x hx => (List.mem_append.1 hx).elim (hb x) (hm x))]
  simp only [Option.bind_some]
  rw [if_pos trivial, if_pos trivial, if_pos trivial]
  by_cases h0 : m.length = 0
  · have : m = [] := List.length_eq_zero_iff.1 h0
    subst this
    rw [List.append_nil, h]
    rfl
  · rw [dec_more (by rw [List.length_append]; omega) hk hok (by omega)]
    have : ((m.length : Int) == 0) = false := by rw [beq_eq_false_iff_ne]; omega
    rw [this]
    rfl
theorem TszOne_calls (W : World) (a0 : Option Addr) (cap0 : Nat) (l0 : List Int) (hc0 : l0.length ≤ cap0) (hr0 : Kd.C (Kd.int .u8) W a0 l0.length l0) (hw0 : ∀ x ∈ l0, (Lit.int .u8 x).wf = true) (hs0 : l0.length * 1 ≤ 140737488351232) (a1 : Int) (w1 : (Lit.int .i64 a1).wf = true) (a2 : Option Addr) (cap2 : Nat) (l2 : List Int) (hc2 : l2.length ≤ cap2) (hr2 : Kd.C (Kd.int .u8) W a2 l2.length l2) (hw2 : ∀ x ∈ l2, (Lit.int .u8 x).wf = true) (hs2 : l2.length * 1 ≤ 140737488351232) (hL : Ld.LaidW W) :
    Calls Tryd.prog 10 #[.slice a0 l0.length cap0, .int .i64 a1, .slice a2 l2.length cap2] W fun e w' => e = .returned (.bool true) ∧ Below W.heap.size W w' := by
  have key : ∀ l : List Int, (∀ x ∈ l, (Lit.int .u8 x).wf = true) → ∀ x ∈ l, 0 ≤ x ∧ x < 256 := fun l h x hx => by
    have := h x hx
    simp [Lit.wf, IntKind.min, IntKind.max, IntKind.signed, IntKind.bits] at this
    omega
  exact thermographlaw05_TszOne.calls 20000 a0 cap0 l0 a1 a2 cap2 l2 true W hr0 hc0 hr2 hc2 (TszOne_f (key l0 hw0) (key l2 hw2) a1) hL
end Go.Proofs.YtmnlbedgkjnodaaDoor.ToT
