/- What the calls of the codec's decoder come to: get, time, value.
   What the call of the codec's decoder's value comes to. -/
import Derived.Test.YtmnlbedgkjnodaaDoorZTszBack7
import Derived.Test.YtmnlbedgkjnodaaDoorZTszBack13
import Derived.WalkLawsBesides
namespace Go.Proofs.YtmnlbedgkjnodaaDoor.TdW
open Go.RowKit Go.Proofs.YtmnlbedgkjnodaaDoorW.PrintWords Go.Proofs.YtmnlbedgkjnodaaDoorW.PrintLast Go.Proofs.YtmnlbedgkjnodaaDoorW.PrintMore Go.Proofs.YtmnlbedgkjnodaaDoor.QB Go.Proofs.YtmnlbedgkjnodaaDoor.Sl Go.Proofs.YtmnlbedgkjnodaaDoor.Bt Go.Proofs.YtmnlbedgkjnodaaDoor.WrW Go.Proofs.YtmnlbedgkjnodaaDoor.RdW Go.Proofs.YtmnlbedgkjnodaaDoor.TzP Go.Proofs.YtmnlbedgkjnodaaDoor.TzW Go.Proofs.YtmnlbedgkjnodaaDoor.TeP Go.Proofs.YtmnlbedgkjnodaaDoor.TdP Go.Proofs.YtmnlbedgkjnodaaDoor.Ld
attribute [local go_sem] max2_int min2_int max_two min_two
set_option linter.unusedVariables false
set_option linter.unusedSimpArgs false

/-- What a decoder gives up by. -/
def wrongE : PanicEntry := { v := .iface 63 (.agg #[]), recovered := false }
set_option maxHeartbeats 2000000 in
set_option maxRecDepth 100000 in
theorem dget_ok (w0 w : World) (L : List Asn) (g : Nat) (b : List Int) (p : Nat) (n : Int) (m : Nat) (hm : cutN n = m) (hb : b.length ≤ 1099511627776) (hby : ∀ x ∈ b, 0 ≤ x ∧ x < 256) (hp : p ≤ 8 * b.length) (hle : m ≤ 8 * b.length - p) (h : Sat w0 w (Rd g b p :: L)) :
    Calls Tryd.prog 53 #[.agg #[.pointer (some ⟨g, 0, none⟩)], .int .i64 n] w fun e w' => e = .returned (.int .u64 ((getN b p m : Nat) : Int)) ∧ Sat w0 w' (Rd g b (p + m) :: L) := by
  subst hm
  have H1 := Aside0.mk (show Sat w0 _ (Rd g b p :: Blk w.heap.size #[.pointer (some ⟨g, 0, none⟩)] 70 :: L) from (h.newBlk #[.pointer (some ⟨g, 0, none⟩)] 70).nth 1 rfl)
  have HBY := Aside0.mk hby
  clear h hby
  go_enter Tryd.func53, Tryd.ntmps53
  go_upto_region 1 with (fail)
  generalize w.alloc (.cells #[.pointer (some ⟨g, 0, none⟩)] 70) = w1 at H1 ⊢
  have k0 := (H1.out.nth 1 rfl).cell 0 (v := .pointer (some ⟨g, 0, none⟩)) rfl
  go_wp2_with (first | (go_at_call 59; go_loud ((with_reducible refine (Get_ok w0 w1 _ g b p n hb HBY.out hp hle H1.out).mono ?_); rintro e w2 ⟨rfl, hs⟩; have H2 := Aside0.mk hs; clear hs)))
  go_ret
  exact ⟨rfl, ((show Sat w0 w2 (Rd g b (p + cutN n) :: Blk w.heap.size _ 70 :: L) from H2.out).nth 1 rfl).tail⟩
set_option maxHeartbeats 2000000 in
set_option maxRecDepth 100000 in
theorem dget_bad (w0 w : World) (L : List Asn) (g : Nat) (b : List Int) (p : Nat) (n : Int) (m : Nat) (hm : cutN n = m) (hb : b.length ≤ 1099511627776) (hp : p ≤ 8 * b.length) (hle : ¬ m ≤ 8 * b.length - p) (h : Sat w0 w (Rd g b p :: L)) :
    Calls Tryd.prog 53 #[.agg #[.pointer (some ⟨g, 0, none⟩)], .int .i64 n] w fun e w' => e = .panicked [wrongE] ∧ Sat w0 w' (Rd g b p :: L) := by
  subst hm
  have H1 := Aside0.mk (show Sat w0 _ (Rd g b p :: Blk w.heap.size #[.pointer (some ⟨g, 0, none⟩)] 70 :: L) from (h.newBlk #[.pointer (some ⟨g, 0, none⟩)] 70).nth 1 rfl)
  clear h
  go_enter Tryd.func53, Tryd.ntmps53
  go_upto_region 1 with (fail)
  generalize w.alloc (.cells #[.pointer (some ⟨g, 0, none⟩)] 70) = w1 at H1 ⊢
  have k0 := (H1.out.nth 1 rfl).cell 0 (v := .pointer (some ⟨g, 0, none⟩)) rfl
  go_wp2_with (first | (go_at_call 59; go_loud ((with_reducible refine (Get_none w0 w1 _ g b p n hb hp hle H1.out).mono ?_); rintro e w2 ⟨rfl, hs⟩; have H2 := Aside0.mk hs; clear hs)))
  exact ⟨rfl, rfl, ((show Sat w0 w2 (Rd g b p :: Blk w.heap.size _ 70 :: L) from H2.out).nth 1 rfl).tail⟩
/-- What is told, or given up by. -/
def POut {β : Type} (o : Option (β × Nat)) (val : β → Value) (w0 : World) (L : List Asn) (g : Nat) (b : List Int) (e : Ending) (w' : World) : Prop :=
  match o with
  | some r => e = .returned (val r.1) ∧ Sat w0 w' (Rd g b r.2 :: L)
  | none => e = .panicked [wrongE] ∧ ∃ q, Sat w0 w' (Rd g b q :: L)
theorem POut.ok {β : Type} {o : Option (β × Nat)} {val : β → Value} {w0 : World} {L : List Asn} {g : Nat} {b : List Int} {e : Ending} {w' : World} {x : β} {p : Nat} (ho : o = some (x, p)) (he : e = .returned (val x)) (hs : Sat w0 w' (Rd g b p :: L)) : POut o val w0 L g b e w' := by
  subst ho
  exact ⟨he, hs⟩
theorem POut.bad {β : Type} {o : Option (β × Nat)} {val : β → Value} {w0 : World} {L : List Asn} {g : Nat} {b : List Int} {e : Ending} {w' : World} {q : Nat} (ho : o = none) (he : e = .panicked [wrongE]) (hs : Sat w0 w' (Rd g b q :: L)) : POut o val w0 L g b e w' := by
  subst ho
  exact ⟨he, q, hs⟩
theorem gb_ok {b : List Int} {p n : Nat} (h : n ≤ 8 * b.length - p) : gb b p n = some (getN b p n, p + n) := by unfold gb; rw [if_pos h]
theorem gb_bad {b : List Int} {p n : Nat} (h : ¬ n ≤ 8 * b.length - p) : gb b p n = none := by unfold gb; rw [if_neg h]
theorem getN_one_lt (b : List Int) (p : Nat) : getN b p 1 < 2 := getN_lt b p 1 (by omega)
def rdForm (k : Nat) : Nat × Nat := formsP.getD k (0, 0)
/-- The forms as the program lays them, and as the decoder's words have them. -/
theorem form_dec (k : Nat) (hk : k < 3) : ∃ h n lo z : Nat, rd_T88 formsL (k : Int) = ⟨(h : Int), (n : Int), (lo : Int), (z : Int)⟩ ∧ lo ≤ 2047 ∧ z ≤ 12 ∧ (∀ (b : List Int) (p : Nat), timeGo b (formsP.drop k) p = (gb b p 1).bind fun r => if r.1 = 0 then (gb b r.2 z).map fun u => ((u.1 : Int) - lo, u.2) else timeGo b (formsP.drop (k + 1)) r.2) := by
  rcases k with _ | _ | _ | k
  · exact ⟨2, 2, 63, 7, rfl, by omega, by omega, fun _ _ => rfl⟩
  · exact ⟨6, 3, 255, 9, rfl, by omega, by omega, fun _ _ => rfl⟩
  · exact ⟨14, 4, 2047, 12, rfl, by omega, by omega, fun _ _ => rfl⟩
  · omega
theorem timeGo_end (b : List Int) (p : Nat) : timeGo b (formsP.drop 3) p = (gb b p 64).map fun r => (wrap64 (r.1 : Int), r.2) := rfl
def Dt.T7 : Bool × List (List Nat × List Nat) := (true, [([], []), ([], []), ([1], [1]), ([0, 2], [0, 2]), ([3], [3]), ([], []), ([5], [5]), ([4, 6], [4, 6]), ([7, 3, 0, 1, 2, 3, 4, 5, 6, 7], [7])])
def Dt.B7 : List Nat := [0, 0, 2, 7, 15, 0, 32, 127, 255]
theorem Dt.tab7 : rtab .any (opsOf Tryd.f54 7) = Dt.T7 := by kernel_rfl
theorem Dt.bits7 : waitsOk Dt.T7.2 Dt.B7 = true := by kernel_rfl
set_option maxHeartbeats 8000000 in
set_option maxRecDepth 100000 in
theorem dtime_calls (w0 w : World) (L : List Asn) (g : Nat) (b : List Int) (p : Nat) (hb : b.length ≤ 1099511627776) (hby : ∀ x ∈ b, 0 ≤ x ∧ x < 256) (hp : p ≤ 8 * b.length) (h : Sat w0 w (Rd g b p :: L)) :
    Calls Tryd.prog 54 #[.agg #[.pointer (some ⟨g, 0, none⟩)]] w (POut (timeP b p) (fun x => .int .i64 x) w0 L g b) := by
  have H1 := Aside0.mk (show Sat w0 _ (Rd g b p :: Blk w.heap.size #[.pointer (some ⟨g, 0, none⟩)] 70 :: L) from (h.newBlk #[.pointer (some ⟨g, 0, none⟩)] 70).nth 1 rfl)
  have HBY := Aside0.mk hby
  clear h hby
  by_cases hg1 : 1 ≤ 8 * b.length - p
  rotate_left
  · have HO := Aside0.mk (show timeP b p = none from by unfold timeP; rw [gb_bad hg1]; rfl)
    go_enter Tryd.func54, Tryd.ntmps54
    go_upto_region 1 with (fail)
    generalize w.alloc (.cells #[.pointer (some ⟨g, 0, none⟩)] 70) = w1 at H1 ⊢
    generalize w.heap.size = gd at H1 ⊢
    have k0 := (H1.out.nth 1 rfl).cell 0 (v := .pointer (some ⟨g, 0, none⟩)) rfl
    go_wp2_with (first | (go_at_call 53; go_loud ((with_reducible refine (dget_bad w0 w1 _ g b p 1 1 rfl hb hp hg1 H1.out).mono ?_); rintro e w2 ⟨rfl, hs⟩; have H2 := Aside0.mk hs; clear hs)))
    refine ⟨rfl, POut.bad HO.out rfl (q := p) ?_⟩
    exact ((show Sat w0 w2 (Rd g b p :: Blk gd _ 70 :: L) from H2.out).nth 1 rfl).tail
  obtain ⟨v, hv⟩ : ∃ v, getN b p 1 = v := ⟨_, rfl⟩
  have hv2 := getN_one_lt b p
  rw [hv] at hv2
  have HV := Aside0.mk hv
  by_cases hv0 : v = 0
  · subst hv0
    have HO := Aside0.mk (show timeP b p = some (0, p + 1) from by unfold timeP; rw [gb_ok hg1, hv]; rfl)
    clear hv
    go_enter Tryd.func54, Tryd.ntmps54
    go_upto_region 1 with (fail)
    generalize w.alloc (.cells #[.pointer (some ⟨g, 0, none⟩)] 70) = w1 at H1 ⊢
    generalize w.heap.size = gd at H1 ⊢
    have k0 := (H1.out.nth 1 rfl).cell 0 (v := .pointer (some ⟨g, 0, none⟩)) rfl
    go_wp2_with (first | (go_at_call 53; go_loud ((with_reducible refine (dget_ok w0 w1 _ g b p 1 1 rfl hb HBY.out hp hg1 H1.out).mono ?_); rintro e w2 ⟨rfl, hs⟩; rw [HV.out]; have H2 := Aside0.mk hs; clear hs)))
    go_ret
    refine POut.ok HO.out rfl ?_
    exact ((show Sat w0 w2 (Rd g b (p + 1) :: Blk gd _ 70 :: L) from H2.out).nth 1 rfl).tail
  have HO := Aside0.mk (show timeP b p = timeGo b (formsP.drop 0) (p + 1) from by unfold timeP; rw [gb_ok hg1, hv]; simp only [Option.bind_some]; rw [if_neg hv0]; rfl)
  have dv : ((v : Int) == 0) = false := by rw [beq_eq_false_iff_ne]; omega
  have hp1 : p + 1 ≤ 8 * b.length := by omega
  clear hv
  go_enter Tryd.func54, Tryd.ntmps54
  go_upto_region 1 with (fail)
  generalize w.alloc (.cells #[.pointer (some ⟨g, 0, none⟩)] 70) = w1 at H1 ⊢
  generalize w.heap.size = gd at H1 ⊢
  have k0 := (H1.out.nth 1 rfl).cell 0 (v := .pointer (some ⟨g, 0, none⟩)) rfl
  go_wp2_with (first | (go_at_call 53; go_loud ((with_reducible refine (dget_ok w0 w1 _ g b p 1 1 rfl hb HBY.out hp hg1 H1.out).mono ?_); rintro e w2 ⟨rfl, hs⟩; rw [HV.out]; have H2 := Aside0.mk hs; clear hs)) | (go_at_call 45; go_loud ((with_reducible refine (tsz_forms.calls formsL w2 rfl).mono ?_); rintro e w3 ⟨v0, rfl, hr, hb1⟩; have hs1 := H2.out.made hb1 hr; obtain ⟨A1, c1, hv1, _, _⟩ := hs1.rowSlice; subst hv1; have HS1 := Aside0.mk (show Sat w0 w3 (Rd g b (p + 1) :: Row k88 88 (.slice A1 formsL.length c1) formsL :: Blk gd #[.pointer (some ⟨g, 0, none⟩)] 70 :: L) from hs1.nth 1 rfl); clear hs1 hr hb1)))
  clear k0 H1 H2 HV
  go_loopw [10] (fun v10 wr => ∃ k q : Nat, k ≤ 3 ∧ v10 = .int .i64 k ∧ q ≤ 8 * b.length ∧ Aside0 (timeP b p = timeGo b (formsP.drop k) q) ∧ Aside0 (Sat w0 wr (Rd g b q :: Row k88 88 (.slice A1 formsL.length c1) formsL :: Blk gd #[.pointer (some ⟨g, 0, none⟩)] 70 :: L))) (fun v10 _ => 3 - (intOf v10).toNat)
  case atStart => exact ⟨0, p + 1, by omega, rfl, hp1, HO, HS1⟩
  case round =>
    obtain ⟨k, q, hk, rfl, hq, HT, HR⟩ := hrel
    clear HS1 HO
    have hfl : formsL.length = 3 := rfl
    by_cases hlt : k < 3
    · have d1 : decide ((k : Int) < (formsL.length : Int)) = true := decide_eq_true (by rw [hfl]; omega)
      have d2 : decide (k < formsL.length) = true := decide_eq_true (by rw [hfl]; omega)
      obtain ⟨h, n, lo, z, hrd, hlo, hzz, htg⟩ := form_dec k hlt
      obtain ⟨ad, rfl, c0, c1_, c2, c3⟩ := at_T88 (show Kd.C k88 wr A1 formsL.length formsL from (HR.out.nth 1 rfl).rowC) (k : Int) (by omega) (by rw [hfl]; omega)
      rw [hrd] at c0 c1_ c2 c3
      simp only [Int.toNat_natCast] at c0 c1_ c2 c3
      have HNB := Aside0.mk (HR.out.newBlk #[.int .u64 h, .int .i64 n, .int .i64 lo, .int .i64 z] 88)
      have hk0 : (0 : Int) ≤ (k : Int) := by omega
      have hk1 : (k : Int) < (formsL.length : Int) := by rw [hfl]; omega
      have hk2 : k < formsL.length := by rw [hfl]; omega
      have HTG := Aside0.mk (htg b q)
      have HCZ := Aside0.mk (cutN_nat z (by omega))
      clear hrd hfl HR htg
      go_upto_region 6 with (fail)
      generalize hwn : wr.alloc (.cells #[.int .u64 h, .int .i64 n, .int .i64 lo, .int .i64 z] 88) = w5 at HNB ⊢
      generalize wr.heap.size = g5 at HNB ⊢
      clear hwn c0 c1_ c2 c3 d1 d2 hk0 hk1 hk2
      have H5 := Aside0.mk (show Sat w0 w5 (Rd g b q :: Blk g5 #[.int .u64 h, .int .i64 n, .int .i64 lo, .int .i64 z] 88 :: Row k88 88 (.slice (some ad) formsL.length c1) formsL :: Blk gd #[.pointer (some ⟨g, 0, none⟩)] 70 :: L) from HNB.out.nth 1 rfl)
      clear HNB
      have k0 := (H5.out.nth 3 rfl).cell 0 (v := .pointer (some ⟨g, 0, none⟩)) rfl
      by_cases hgq : 1 ≤ 8 * b.length - q
      rotate_left
      · have HO := Aside0.mk (show timeP b p = none from by rw [HT.out, HTG.out, gb_bad hgq]; rfl)
        go_wp2_with (first | (go_at_call 53; go_loud ((with_reducible refine (dget_bad w0 w5 _ g b q 1 1 rfl hb hq hgq H5.out).mono ?_); rintro e w6 ⟨rfl, hs⟩; have H6 := Aside0.mk hs; clear hs)))
        refine ⟨rfl, POut.bad HO.out rfl (q := q) ?_⟩
        exact (((((show Sat w0 w6 (Rd g b q :: Blk g5 _ 88 :: Row k88 88 _ formsL :: Blk gd _ 70 :: L) from H6.out).nth 1 rfl).tail.nth 1 rfl).tail).nth 1 rfl).tail
      obtain ⟨u, hu⟩ : ∃ u, getN b q 1 = u := ⟨_, rfl⟩
      have hu2 := getN_one_lt b q
      rw [hu] at hu2
      have HU := Aside0.mk hu
      by_cases hu0 : u = 0
      · subst hu0
        obtain ⟨q2, hq2e⟩ : ∃ q2, q + 1 = q2 := ⟨_, rfl⟩
        have hq2 : q2 ≤ 8 * b.length := by omega
        have HO := Aside0.mk (show timeP b p = (gb b q2 z).map fun u => ((u.1 : Int) - lo, u.2) from by rw [HT.out, HTG.out, gb_ok hgq, hu, hq2e]; rfl)
        clear hu
        go_wp2_with (first | (go_at_call 53; go_loud ((with_reducible refine (dget_ok w0 w5 _ g b q 1 1 rfl hb HBY.out hq hgq H5.out).mono ?_); rintro e w6 ⟨rfl, hs⟩; rw [HU.out]; have H6 := Aside0.mk hs; clear hs)))
        rw [hq2e] at H6
        have HD := Aside0.mk (show Sat w0 w6.drew (Rd g b q2 :: Blk g5 #[.int .u64 h, .int .i64 n, .int .i64 lo, .int .i64 z] 88 :: Row k88 88 (.slice (some ad) formsL.length c1) formsL :: Blk gd #[.pointer (some ⟨g, 0, none⟩)] 70 :: L) from H6.out.drew)
        have q0 := (HD.out.nth 3 rfl).cell 0 (v := .pointer (some ⟨g, 0, none⟩)) rfl
        have q2_ := (HD.out.nth 1 rfl).cell 2 (v := .int .i64 lo) rfl
        have q3_ := (HD.out.nth 1 rfl).cell 3 (v := .int .i64 z) rfl
        clear k0 H5 H6 HT HTG HU
        by_cases hgz : z ≤ 8 * b.length - q2
        · have hgl := getN_lt b q2 z (by omega)
          have hgl2 : getN b q2 z < 4096 := Nat.lt_of_lt_of_le hgl (Nat.le_trans (Nat.pow_le_pow_right (by omega) (show z ≤ 12 by omega)) (by omega))
          obtain ⟨r, hr⟩ : ∃ r, getN b q2 z = r := ⟨_, rfl⟩
          rw [hr] at hgl2
          have HO2 := Aside0.mk (show timeP b p = some ((r : Int) - lo, q2 + z) from by rw [HO.out, gb_ok hgz, hr]; rfl)
          have HGR := Aside0.mk hr
          have ew : IntKind.i64.wrap (r : Int) = (r : Int) := by rw [IntKind.wrap_i64]; omega
          have ew2 : IntKind.i64.wrap ((r : Int) - (lo : Int)) = (r : Int) - (lo : Int) := by rw [IntKind.wrap_i64]; omega
          clear hr hgl
          refine start_ (n := 9) (S := fun w' => w'.cell? ⟨gd, 0, none⟩ = some (.pointer (some ⟨g, 0, none⟩)) ∧ w'.cell? ⟨g5, 2, none⟩ = some (.int .i64 lo) ∧ w'.cell? ⟨g5, 3, none⟩ = some (.int .i64 z)) (ds := []) #[false, false, false, false, false, false, false, false, false] (by kernel_rfl) rfl rfl ⟨q0, q2_, q3_⟩ (fun hHeld => ?_)
          refine with_tabW Dt.tab7 Dt.bits7 (fun HT_ HW_ => ?_)
          refine pure_ (i := 1) (N := some 18) (v := ?_) (a' := ?_) #[false, true, false, false, false, false, false, false, false] rfl rfl (any_of HT_.out (by kernel_rfl)) (fun _ _ _ h => h) (Or.inl ⟨by rfl, ?_⟩) ?_ ?_
          rotate_left
          · intro w'
            go_simp
            with_reducible rfl
          rotate_left
          · simp only [Act.put, List.setIfInBounds_toArray, List.set_cons_zero, List.set_cons_succ, i64_w, i32_w]
            rfl
          refine pure_ (i := 5) (N := some 22) (v := ?_) (a' := ?_) #[false, true, false, false, false, true, false, false, false] rfl rfl (any_of HT_.out (by kernel_rfl)) (fun _ _ _ h => h) (Or.inl ⟨by rfl, ?_⟩) ?_ ?_
          rotate_left
          · intro w'
            go_simp
            with_reducible rfl
          rotate_left
          · simp only [Act.put, List.setIfInBounds_toArray, List.set_cons_zero, List.set_cons_succ, i64_w, i32_w]
            rfl
          refine take_ (i := 0) (N := some 17) (v := ?_) (a' := ?_) #[true, true, false, false, false, true, false, false, false] rfl rfl (take_ofW HT_.out HW_.out (by kernel_rfl)) (fun _ _ _ h => h) (Or.inl ⟨by rfl, ?_⟩) hHeld ?_ ?_
          rotate_left
          · rintro w' ⟨s0, s1, s2⟩
            go_simp
            with_reducible rfl
          rotate_left
          · simp only [Act.put, List.setIfInBounds_toArray, List.set_cons_zero, List.set_cons_succ, i64_w, i32_w]
            rfl
          refine take_ (i := 2) (N := some 19) (v := ?_) (a' := ?_) #[true, true, true, false, false, true, false, false, false] rfl rfl (take_ofW HT_.out HW_.out (by kernel_rfl)) (fun _ _ _ h => h) (Or.inl ⟨by rfl, ?_⟩) hHeld ?_ ?_
          rotate_left
          · rintro w' ⟨s0, s1, s2⟩
            go_simp
            with_reducible rfl
          rotate_left
          · simp only [Act.put, List.setIfInBounds_toArray, List.set_cons_zero, List.set_cons_succ, i64_w, i32_w]
            rfl
          refine take_ (i := 6) (N := some 23) (v := ?_) (a' := ?_) #[true, true, true, false, false, true, true, false, false] rfl rfl (take_ofW HT_.out HW_.out (by kernel_rfl)) (fun _ _ _ h => h) (Or.inl ⟨by rfl, ?_⟩) hHeld ?_ ?_
          rotate_left
          · rintro w' ⟨s0, s1, s2⟩
            go_simp
            with_reducible rfl
          rotate_left
          · simp only [Act.put, List.setIfInBounds_toArray, List.set_cons_zero, List.set_cons_succ, i64_w, i32_w]
            rfl
          refine one_ (i := 3) (N := some 20) #[true, true, true, true, false, true, true, false, false] rfl rfl (one_of HT_.out (by kernel_rfl)) (by decide) (fun K hK => ?_)
          refine goes_ Tryd.func53 (by kernel_rfl) rfl #[.agg #[.pointer (some ⟨g, 0, none⟩)], .int .i64 (z : Nat)] (by rfl) rfl rfl (by simp only [List.map_toArray, List.map_cons, List.map_nil]; rfl) ?_
          with_reducible refine (dget_ok w0 _ _ g b q2 (z : Int) z HCZ.out hb HBY.out hq2 hgz HD.out).mono ?_
          rintro e w7 ⟨rfl, hs7⟩
          refine ⟨_, rfl, ?_⟩
          rw [HGR.out]
          have HS7 := Aside0.mk hs7
          clear hs7
          have p0 := (HS7.out.nth 3 rfl).cell 0 (v := .pointer (some ⟨g, 0, none⟩)) rfl
          have p2 := (HS7.out.nth 1 rfl).cell 2 (v := .int .i64 lo) rfl
          have p3 := (HS7.out.nth 1 rfl).cell 3 (v := .int .i64 z) rfl
          refine hK.out _ _ ⟨p0, p2, p3⟩ (fun hHeld => ?_)
          clear hK K
          refine norm_ (a' := ?_) ?_ ?_
          rotate_left
          · show Act.put _ (some 20) _ = _
            simp only [Act.put, List.setIfInBounds_toArray, List.set_cons_zero, List.set_cons_succ, i64_w, i32_w]
            rfl
          refine take_ (i := 4) (N := some 21) (v := ?_) (a' := ?_) #[true, true, true, true, true, true, true, false, false] rfl rfl (take_ofW HT_.out HW_.out (by kernel_rfl)) (fun _ _ _ h => h) (Or.inl ⟨by rfl, ?_⟩) hHeld ?_ ?_
          rotate_left
          · rintro w' ⟨s0, s1, s2⟩
            go_simp
            with_reducible rfl
          rotate_left
          · simp only [Act.put, List.setIfInBounds_toArray, List.set_cons_zero, List.set_cons_succ, i64_w, i32_w]
            rfl
          refine pure_ (i := 7) (N := some 24) (v := ?_) (a' := ?_) #[true, true, true, true, true, true, true, true, false] rfl rfl (any_of HT_.out (by kernel_rfl)) (fun _ _ _ h => h) (Or.inl ⟨by rfl, ?_⟩) ?_ ?_
          rotate_left
          · intro w'
            go_simp
            with_reducible rfl
          rotate_left
          · simp only [Act.put, List.setIfInBounds_toArray, List.set_cons_zero, List.set_cons_succ, i64_w, i32_w]
            rfl
          refine pure_ (i := 8) (N := some 2) (v := ?_) (a' := ?_) #[true, true, true, true, true, true, true, true, true] rfl rfl (any_of HT_.out (by kernel_rfl)) (fun _ _ _ h => h) (Or.inl ⟨by rfl, ?_⟩) ?_ ?_
          rotate_left
          · intro w'
            go_simp
            with_reducible rfl
          rotate_left
          · simp only [Act.put, List.setIfInBounds_toArray, List.set_cons_zero, List.set_cons_succ, i64_w, i32_w]
            rfl
          refine done_ (done_of HT_.out (by kernel_rfl)) ?_
          go_wp2
          go_ret
          refine POut.ok HO2.out rfl ?_
          exact (((((show Sat w0 w7 (Rd g b (q2 + z) :: Blk g5 _ 88 :: Row k88 88 _ formsL :: Blk gd _ 70 :: L) from HS7.out).nth 1 rfl).tail.nth 1 rfl).tail).nth 1 rfl).tail
        · have HO2 := Aside0.mk (show timeP b p = none from by rw [HO.out, gb_bad hgz]; rfl)
          refine start_ (n := 9) (S := fun w' => w'.cell? ⟨gd, 0, none⟩ = some (.pointer (some ⟨g, 0, none⟩)) ∧ w'.cell? ⟨g5, 2, none⟩ = some (.int .i64 lo) ∧ w'.cell? ⟨g5, 3, none⟩ = some (.int .i64 z)) (ds := []) #[false, false, false, false, false, false, false, false, false] (by kernel_rfl) rfl rfl ⟨q0, q2_, q3_⟩ (fun hHeld => ?_)
          refine with_tabW Dt.tab7 Dt.bits7 (fun HT_ HW_ => ?_)
          refine pure_ (i := 1) (N := some 18) (v := ?_) (a' := ?_) #[false, true, false, false, false, false, false, false, false] rfl rfl (any_of HT_.out (by kernel_rfl)) (fun _ _ _ h => h) (Or.inl ⟨by rfl, ?_⟩) ?_ ?_
          rotate_left
          · intro w'
            go_simp
            with_reducible rfl
          rotate_left
          · simp only [Act.put, List.setIfInBounds_toArray, List.set_cons_zero, List.set_cons_succ, i64_w, i32_w]
            rfl
          refine pure_ (i := 5) (N := some 22) (v := ?_) (a' := ?_) #[false, true, false, false, false, true, false, false, false] rfl rfl (any_of HT_.out (by kernel_rfl)) (fun _ _ _ h => h) (Or.inl ⟨by rfl, ?_⟩) ?_ ?_
          rotate_left
          · intro w'
            go_simp
            with_reducible rfl
          rotate_left
          · simp only [Act.put, List.setIfInBounds_toArray, List.set_cons_zero, List.set_cons_succ, i64_w, i32_w]
            rfl
          refine take_ (i := 0) (N := some 17) (v := ?_) (a' := ?_) #[true, true, false, false, false, true, false, false, false] rfl rfl (take_ofW HT_.out HW_.out (by kernel_rfl)) (fun _ _ _ h => h) (Or.inl ⟨by rfl, ?_⟩) hHeld ?_ ?_
          rotate_left
          · rintro w' ⟨s0, s1, s2⟩
            go_simp
            with_reducible rfl
          rotate_left
          · simp only [Act.put, List.setIfInBounds_toArray, List.set_cons_zero, List.set_cons_succ, i64_w, i32_w]
            rfl
          refine take_ (i := 2) (N := some 19) (v := ?_) (a' := ?_) #[true, true, true, false, false, true, false, false, false] rfl rfl (take_ofW HT_.out HW_.out (by kernel_rfl)) (fun _ _ _ h => h) (Or.inl ⟨by rfl, ?_⟩) hHeld ?_ ?_
          rotate_left
          · rintro w' ⟨s0, s1, s2⟩
            go_simp
            with_reducible rfl
          rotate_left
          · simp only [Act.put, List.setIfInBounds_toArray, List.set_cons_zero, List.set_cons_succ, i64_w, i32_w]
            rfl
          refine take_ (i := 6) (N := some 23) (v := ?_) (a' := ?_) #[true, true, true, false, false, true, true, false, false] rfl rfl (take_ofW HT_.out HW_.out (by kernel_rfl)) (fun _ _ _ h => h) (Or.inl ⟨by rfl, ?_⟩) hHeld ?_ ?_
          rotate_left
          · rintro w' ⟨s0, s1, s2⟩
            go_simp
            with_reducible rfl
          rotate_left
          · simp only [Act.put, List.setIfInBounds_toArray, List.set_cons_zero, List.set_cons_succ, i64_w, i32_w]
            rfl
          refine one_ (i := 3) (N := some 20) #[true, true, true, true, false, true, true, false, false] rfl rfl (one_of HT_.out (by kernel_rfl)) (by decide) (fun K hK => ?_)
          refine goesP_ Tryd.func53 (by kernel_rfl) rfl #[.agg #[.pointer (some ⟨g, 0, none⟩)], .int .i64 (z : Nat)] (by rfl) rfl (by simp only [List.map_toArray, List.map_cons, List.map_nil]; rfl) [wrongE] ?_
          with_reducible refine (dget_bad w0 _ _ g b q2 (z : Int) z HCZ.out hb hq2 hgz HD.out).mono ?_
          rintro e w7 ⟨rfl, hs7⟩
          refine ⟨rfl, ?_⟩
          have HS7 := Aside0.mk hs7
          clear hs7
          refine ⟨rfl, POut.bad HO2.out rfl (q := q2) ?_⟩
          exact (((((show Sat w0 w7 (Rd g b q2 :: Blk g5 _ 88 :: Row k88 88 _ formsL :: Blk gd _ 70 :: L) from HS7.out).nth 1 rfl).tail.nth 1 rfl).tail).nth 1 rfl).tail
      · have du : ((u : Int) == 0) = false := by rw [beq_eq_false_iff_ne]; omega
        have HO := Aside0.mk (show timeP b p = timeGo b (formsP.drop (k + 1)) (q + 1) from by rw [HT.out, HTG.out, gb_ok hgq, hu]; simp only [Option.bind_some]; rw [if_neg hu0])
        clear hu HTG HT
        go_wp2_with (first | (go_at_call 53; go_loud ((with_reducible refine (dget_ok w0 w5 _ g b q 1 1 rfl hb HBY.out hq hgq H5.out).mono ?_); rintro e w6 ⟨rfl, hs⟩; rw [HU.out]; have H6 := Aside0.mk hs; clear hs)))
        go_roundw
        case measure => simp [intOf]; omega
        case rel => exact ⟨k + 1, q + 1, by omega, by go_num, by omega, HO, ⟨((show Sat w0 w6 (Rd g b (q + 1) :: Blk g5 _ 88 :: Row k88 88 _ formsL :: Blk gd _ 70 :: L) from H6.out).nth 1 rfl).tail⟩⟩
    · have d1 : decide ((k : Int) < (formsL.length : Int)) = false := decide_eq_false (by rw [hfl]; omega)
      have d2 : decide (k < formsL.length) = false := decide_eq_false (by rw [hfl]; omega)
      obtain rfl : k = 3 := by omega
      have k0 := (HR.out.nth 2 rfl).cell 0 (v := .pointer (some ⟨g, 0, none⟩)) rfl
      clear hfl
      by_cases hgq : 64 ≤ 8 * b.length - q
      · obtain ⟨r, hr⟩ : ∃ r, getN b q 64 = r := ⟨_, rfl⟩
        have HO := Aside0.mk (show timeP b p = some (wrap64 (r : Int), q + 64) from by rw [HT.out, timeGo_end, gb_ok hgq, hr]; rfl)
        have HGR := Aside0.mk hr
        clear hr HT
        go_wp2_with (first | (go_at_call 53; go_loud ((with_reducible refine (dget_ok w0 wr _ g b q 64 64 rfl hb HBY.out hq hgq HR.out).mono ?_); rintro e w6 ⟨rfl, hs⟩; rw [HGR.out]; have H6 := Aside0.mk hs; clear hs)))
        go_ret
        refine POut.ok HO.out rfl ?_
        exact (((show Sat w0 w6 (Rd g b (q + 64) :: Row k88 88 _ formsL :: Blk gd _ 70 :: L) from H6.out).nth 1 rfl).tail.nth 1 rfl).tail
      · have HO := Aside0.mk (show timeP b p = none from by rw [HT.out, timeGo_end, gb_bad hgq]; rfl)
        go_wp2_with (first | (go_at_call 53; go_loud ((with_reducible refine (dget_bad w0 wr _ g b q 64 64 rfl hb hq hgq HR.out).mono ?_); rintro e w6 ⟨rfl, hs⟩; have H6 := Aside0.mk hs; clear hs)))
        refine ⟨rfl, POut.bad HO.out rfl (q := q) ?_⟩
        exact (((show Sat w0 w6 (Rd g b q :: Row k88 88 _ formsL :: Blk gd _ 70 :: L) from H6.out).nth 1 rfl).tail.nth 1 rfl).tail
end Go.Proofs.YtmnlbedgkjnodaaDoor.TdW
namespace Go.Proofs.YtmnlbedgkjnodaaDoor.TdW
open Go.RowKit Go.Proofs.YtmnlbedgkjnodaaDoorW.PrintWords Go.Proofs.YtmnlbedgkjnodaaDoorW.PrintLast Go.Proofs.YtmnlbedgkjnodaaDoorW.PrintMore Go.Proofs.YtmnlbedgkjnodaaDoor.QB Go.Proofs.YtmnlbedgkjnodaaDoor.Sl Go.Proofs.YtmnlbedgkjnodaaDoor.Bt Go.Proofs.YtmnlbedgkjnodaaDoor.WrW Go.Proofs.YtmnlbedgkjnodaaDoor.RdW Go.Proofs.YtmnlbedgkjnodaaDoor.TzP Go.Proofs.YtmnlbedgkjnodaaDoor.TzW Go.Proofs.YtmnlbedgkjnodaaDoor.TeP Go.Proofs.YtmnlbedgkjnodaaDoor.TdP Go.Proofs.YtmnlbedgkjnodaaDoor.Ld
attribute [local go_sem] max2_int min2_int max_two min_two
set_option linter.unusedVariables false
set_option linter.unusedSimpArgs false
def valV (r : Nat × Win) : Value := .tuple #[.int .u64 r.1, .agg #[.int .i64 (wl r.2), .int .i64 (wt r.2)]]
/-- Four blocks beside a reader, dropped. -/
theorem drop3 {w0 w : World} {A B C D : Asn} {L : List Asn} (h : Sat w0 w (A :: B :: C :: D :: L)) : Sat w0 w (A :: L) :=
  (((((h.nth 1 rfl).tail : Sat w0 w (A :: C :: D :: L)).nth 1 rfl).tail : Sat w0 w (A :: D :: L)).nth 1 rfl).tail
theorem shl_value (r t : Nat) (ht : t ≤ 63) : IntKind.u64.wrap ((r : Int) * 2 ^ min (IntKind.u64.wrap (t : Int)).toNat 64) = ((r * 2 ^ t % 18446744073709551616 : Nat) : Int) := by
  have e : min (IntKind.u64.wrap (t : Int)).toNat 64 = t := by rw [IntKind.wrap_u64]; omega
  rw [e, IntKind.wrap_u64, Int.natCast_emod, Int.natCast_mul, Int.natCast_pow]
  rfl
def Dv.T2 : Bool × List (List Nat × List Nat) := (true, [([], []), ([], []), ([0, 1, 0, 1], [0])])
def Dv.B2 : List Nat := [0, 0, 3]
theorem Dv.tab2 : rtab .any (opsOf Tryd.f55 2) = Dv.T2 := by kernel_rfl
theorem Dv.bits2 : waitsOk Dv.T2.2 Dv.B2 = true := by kernel_rfl
def Dv.T5 : Bool × List (List Nat × List Nat) := (true, [([], []), ([0], [0]), ([1], [1]), ([], []), ([3], [3]), ([4], [4]), ([2, 5], [2, 5]), ([0, 1, 2, 3, 4, 5, 6], []), ([7, 6, 4, 0, 1, 2, 3, 4, 5, 6], [6, 7])])
def Dv.B5 : List Nat := [0, 1, 3, 0, 8, 24, 63, 127, 255]
theorem Dv.tab5 : rtab .any (opsOf Tryd.f55 5) = Dv.T5 := by kernel_rfl
theorem Dv.bits5 : waitsOk Dv.T5.2 Dv.B5 = true := by kernel_rfl
def Dv.T8 : Bool × List (List Nat × List Nat) := (true, [([], []), ([], []), ([1], [1]), ([0, 2, 2], [0, 2]), ([], []), ([4], [4]), ([5], [5]), ([3, 6], [3, 6]), ([], []), ([7, 3, 0, 1, 2, 3, 4, 5, 6, 7], [7]), ([8, 9, 0, 1, 2, 3, 4, 5, 6, 7, 8, 9], [8])])
def Dv.B8 : List Nat := [0, 0, 2, 7, 0, 16, 48, 127, 0, 255, 1023]
theorem Dv.tab8 : rtab .any (opsOf Tryd.f55 8) = Dv.T8 := by kernel_rfl
theorem Dv.bits8 : waitsOk Dv.T8.2 Dv.B8 = true := by kernel_rfl
set_option maxHeartbeats 8000000 in
set_option maxRecDepth 100000 in
theorem dvalue_calls (w0 w : World) (L : List Asn) (g : Nat) (b : List Int) (p : Nat) (x : Win) (hx : x.Ok) (hb : b.length ≤ 1099511627776) (hby : ∀ x ∈ b, 0 ≤ x ∧ x < 256) (hp : p ≤ 8 * b.length) (h : Sat w0 w (Rd g b p :: L)) :
    Calls Tryd.prog 55 #[.agg #[.pointer (some ⟨g, 0, none⟩)], .agg #[.int .i64 (wl x), .int .i64 (wt x)]] w (POut (valueP b p x) valV w0 L g b) := by
  have h1 := ((h.newBlk #[.pointer (some ⟨g, 0, none⟩)] 70).newBlk #[.int .i64 (wl x), .int .i64 (wt x)] 47).newBlk #[.int .i64 0, .int .i64 0] 47
  rw [alloc_size, alloc_size] at h1
  have H1 := Aside0.mk (show Sat w0 _ (Rd g b p :: Blk (w.heap.size + 1 + 1) #[.int .i64 0, .int .i64 0] 47 :: Blk (w.heap.size + 1) #[.int .i64 (wl x), .int .i64 (wt x)] 47 :: Blk w.heap.size #[.pointer (some ⟨g, 0, none⟩)] 70 :: L) from h1.nth 3 rfl)
  have HBY := Aside0.mk hby
  have HX := Aside0.mk hx
  clear h h1 hby hx
  by_cases hg1 : 1 ≤ 8 * b.length - p
  rotate_left
  · have HO := Aside0.mk (show valueP b p x = none from by unfold valueP; rw [gb_bad hg1]; rfl)
    go_enter Tryd.func55, Tryd.ntmps55
    go_upto_region 1 with (fail)
    generalize ((w.alloc (.cells #[.pointer (some ⟨g, 0, none⟩)] 70)).alloc (.cells #[.int .i64 (wl x), .int .i64 (wt x)] 47)).alloc (.cells #[.int .i64 0, .int .i64 0] 47) = w1 at H1 ⊢
    have k0 := (H1.out.nth 3 rfl).cell 0 (v := .pointer (some ⟨g, 0, none⟩)) rfl
    go_wp2_with (first | (go_at_call 53; go_loud ((with_reducible refine (dget_bad w0 w1 _ g b p 1 1 rfl hb hp hg1 H1.out).mono ?_); rintro e w2 ⟨rfl, hs⟩; have H2 := Aside0.mk hs; clear hs)))
    exact ⟨rfl, POut.bad HO.out rfl (drop3 H2.out)⟩
  obtain ⟨v, hv⟩ : ∃ v, getN b p 1 = v := ⟨_, rfl⟩
  have hv2 := getN_one_lt b p
  rw [hv] at hv2
  have HV := Aside0.mk hv
  by_cases hv0 : v = 0
  · subst hv0
    have HO := Aside0.mk (show valueP b p x = some ((0, x), p + 1) from by unfold valueP; rw [gb_ok hg1, hv]; rfl)
    clear hv
    go_enter Tryd.func55, Tryd.ntmps55
    go_upto_region 1 with (fail)
    generalize ((w.alloc (.cells #[.pointer (some ⟨g, 0, none⟩)] 70)).alloc (.cells #[.int .i64 (wl x), .int .i64 (wt x)] 47)).alloc (.cells #[.int .i64 0, .int .i64 0] 47) = w1 at H1 ⊢
    generalize w.heap.size + 1 + 1 = gr at H1 ⊢
    generalize w.heap.size + 1 = gx at H1 ⊢
    generalize w.heap.size = gd at H1 ⊢
    have k0 := (H1.out.nth 3 rfl).cell 0 (v := .pointer (some ⟨g, 0, none⟩)) rfl
    go_wp2_with (first | (go_at_call 53; go_loud ((with_reducible refine (dget_ok w0 w1 _ g b p 1 1 rfl hb HBY.out hp hg1 H1.out).mono ?_); rintro e w2 ⟨rfl, hs⟩; rw [HV.out]; have H2 := Aside0.mk hs; clear hs)))
    have HDr := Aside0.mk (show Sat w0 w2.drew (Blk gr #[.int .i64 0, .int .i64 0] 47 :: Rd g b (p + 1) :: Blk gx #[.int .i64 (wl x), .int .i64 (wt x)] 47 :: Blk gd #[.pointer (some ⟨g, 0, none⟩)] 70 :: L) from H2.out.drew.nth 1 rfl)
    have q0 := (HDr.out.nth 2 rfl).cell 0 (v := .int .i64 (wl x)) rfl
    have q1 := (HDr.out.nth 2 rfl).cell 1 (v := .int .i64 (wt x)) rfl
    clear k0
    refine start_ (n := 3) (S := fun w' => w'.cell? ⟨gx, 0, none⟩ = some (.int .i64 (wl x)) ∧ w'.cell? ⟨gx, 1, none⟩ = some (.int .i64 (wt x))) (ds := [2]) #[false, false, false] (by kernel_rfl) rfl rfl ⟨q0, q1⟩ (fun hHeld => ?_)
    refine with_tabW Dv.tab2 Dv.bits2 (fun HT_ HW_ => ?_)
    refine pure_ (i := 1) (N := some 4) (v := ?_) (a' := ?_) #[false, true, false] rfl rfl (any_of HT_.out (by kernel_rfl)) (fun _ _ _ h => h) (Or.inl ⟨by rfl, ?_⟩) ?_ ?_
    rotate_left
    · intro w'
      go_simp
      with_reducible rfl
    rotate_left
    · simp only [Act.put, List.setIfInBounds_toArray, List.set_cons_zero, List.set_cons_succ, i64_w, i32_w]
      rfl
    refine take_ (i := 0) (N := some 9) (v := ?_) (a' := ?_) #[true, true, false] rfl rfl (take_ofW HT_.out HW_.out (by kernel_rfl)) (fun _ _ _ h => h) (Or.inl ⟨by rfl, ?_⟩) hHeld ?_ ?_
    rotate_left
    · rintro w' ⟨s0, s1⟩
      go_simp
      with_reducible rfl
    rotate_left
    · simp only [Act.put, List.setIfInBounds_toArray, List.set_cons_zero, List.set_cons_succ, i64_w, i32_w]
      rfl
    refine last_ (i := 2) (N := none) #[true, true, true] rfl rfl (one_of HT_.out (by kernel_rfl)) (by decide) (fun K hK => ?_)
    have s0 := (H2.out.nth 1 rfl).cell 0 (v := .int .i64 0) rfl
    have s1 := (H2.out.nth 1 rfl).cell 1 (v := .int .i64 0) rfl
    have t0 := (H2.out.nth 1 rfl).free 0
    have t1 := (H2.out.nth 1 rfl).free 1
    refine skip_ (w1 := ?_) (by rfl) rfl ?_ ?_
    rotate_left
    · go_simp
      rfl
    refine hK.out _ _ ?_
    clear hK K
    refine done_ (done_of HT_.out (by kernel_rfl)) ?_
    have HY := Aside0.mk (((H2.out.nth 1 rfl).setBlk 0 (.int .i64 (wl x))).setBlk 1 (.int .i64 (wt x))).drew
    go_wp2
    refine bodyPost_ret (results_tc rfl _ _ gr 47 #[.int .i64 (wl x), .int .i64 (wt x)] (0, 0) _ rfl HY.out.blk Tryd.underlying47 rfl (by kernel_rfl)) rfl ?_
    exact POut.ok HO.out rfl (drop3 ((show Sat w0 _ (Blk gr _ 47 :: Rd g b (p + 1) :: Blk gx _ 47 :: Blk gd _ 70 :: L) from HY.out).nth 1 rfl))
  have dv : ((v : Int) == 0) = false := by rw [beq_eq_false_iff_ne]; omega
  obtain ⟨p1, hp1e⟩ : ∃ p1, p + 1 = p1 := ⟨_, rfl⟩
  have hp1 : p1 ≤ 8 * b.length := by omega
  have HO1 := Aside0.mk (show valueP b p x = (gb b p1 1).bind fun u => if u.1 = 1 then wideP b u.2 else heldP b u.2 x from by unfold valueP; rw [gb_ok hg1, hv]; simp only [Option.bind_some]; rw [if_neg hv0, hp1e])
  clear hv
  go_enter Tryd.func55, Tryd.ntmps55
  go_upto_region 1 with (fail)
  generalize ((w.alloc (.cells #[.pointer (some ⟨g, 0, none⟩)] 70)).alloc (.cells #[.int .i64 (wl x), .int .i64 (wt x)] 47)).alloc (.cells #[.int .i64 0, .int .i64 0] 47) = w1 at H1 ⊢
  generalize w.heap.size + 1 + 1 = gr at H1 ⊢
  generalize w.heap.size + 1 = gx at H1 ⊢
  generalize w.heap.size = gd at H1 ⊢
  have k0 := (H1.out.nth 3 rfl).cell 0 (v := .pointer (some ⟨g, 0, none⟩)) rfl
  go_upto_region 3 with (first | (go_at_call 53; go_loud ((with_reducible refine (dget_ok w0 w1 _ g b p 1 1 rfl hb HBY.out hp hg1 H1.out).mono ?_); rintro e w2 ⟨rfl, hs⟩; rw [HV.out]; have H2 := Aside0.mk (show Sat w0 w2 (Rd g b (p + 1) :: Blk gr #[.int .i64 0, .int .i64 0] 47 :: Blk gx #[.int .i64 (wl x), .int .i64 (wt x)] 47 :: Blk gd #[.pointer (some ⟨g, 0, none⟩)] 70 :: L) from hs); clear hs)))
  rw [hp1e] at H2
  have k1 := (H2.out.nth 3 rfl).cell 0 (v := .pointer (some ⟨g, 0, none⟩)) rfl
  clear k0 H1 HV hp1e
  by_cases hg2 : 1 ≤ 8 * b.length - p1
  rotate_left
  · have HO := Aside0.mk (show valueP b p x = none from by rw [HO1.out, gb_bad hg2]; rfl)
    go_wp2_with (first | (go_at_call 53; go_loud ((with_reducible refine (dget_bad w0 w2 _ g b p1 1 1 rfl hb hp1 hg2 H2.out).mono ?_); rintro e w3 ⟨rfl, hs⟩; have H3 := Aside0.mk hs; clear hs)))
    exact ⟨rfl, POut.bad HO.out rfl (drop3 H3.out)⟩
  obtain ⟨u, hu⟩ : ∃ u, getN b p1 1 = u := ⟨_, rfl⟩
  have hu2 := getN_one_lt b p1
  rw [hu] at hu2
  have HU := Aside0.mk hu
  obtain ⟨q, hqe⟩ : ∃ q, p1 + 1 = q := ⟨_, rfl⟩
  have hq : q ≤ 8 * b.length := by omega
  by_cases hu0 : u = 1
  · subst hu0
    have HO2 := Aside0.mk (show valueP b p x = wideP b q from by rw [HO1.out, gb_ok hg2, hu, hqe]; rfl)
    clear hu HO1
    go_upto_region 4 with (first | (go_at_call 53; go_loud ((with_reducible refine (dget_ok w0 w2 _ g b p1 1 1 rfl hb HBY.out hp1 hg2 H2.out).mono ?_); rintro e w3 ⟨rfl, hs⟩; rw [HU.out]; have H3 := Aside0.mk (show Sat w0 w3 (Rd g b (p1 + 1) :: Blk gr #[.int .i64 0, .int .i64 0] 47 :: Blk gx #[.int .i64 (wl x), .int .i64 (wt x)] 47 :: Blk gd #[.pointer (some ⟨g, 0, none⟩)] 70 :: L) from hs); clear hs)))
    rw [hqe] at H3
    clear k1 H2 hqe
    have k1 := (H3.out.nth 3 rfl).cell 0 (v := .pointer (some ⟨g, 0, none⟩)) rfl
    by_cases hg3 : 5 ≤ 8 * b.length - q
    rotate_left
    · have HO := Aside0.mk (show valueP b p x = none from by rw [HO2.out]; unfold wideP; rw [gb_bad hg3]; rfl)
      go_wp2_with (first | (go_at_call 53; go_loud ((with_reducible refine (dget_bad w0 w3 _ g b q 5 5 rfl hb hq hg3 H3.out).mono ?_); rintro e w4 ⟨rfl, hs⟩; have H4 := Aside0.mk hs; clear hs)))
      exact ⟨rfl, POut.bad HO.out rfl (drop3 H4.out)⟩
    obtain ⟨a, ha⟩ : ∃ a, getN b q 5 = a := ⟨_, rfl⟩
    have ha2 : a < 32 := by rw [← ha]; exact getN_lt b q 5 (by omega)
    have HA := Aside0.mk ha
    obtain ⟨p3, hp3e⟩ : ∃ p3, q + 5 = p3 := ⟨_, rfl⟩
    have hp3 : p3 ≤ 8 * b.length := by omega
    have HO3 := Aside0.mk (show valueP b p x = (gb b p3 6).bind fun n => if 63 < a + n.1 then none else finP b n.2 a (63 - a - n.1) from by rw [HO2.out]; unfold wideP; rw [gb_ok hg3, ha, hp3e]; rfl)
    have ea : IntKind.i64.wrap (a : Int) = (a : Int) := by rw [IntKind.wrap_i64]; omega
    clear ha HO2
    go_upto_region 5 with (first | (go_at_call 53; go_loud ((with_reducible refine (dget_ok w0 w3 _ g b q 5 5 rfl hb HBY.out hq hg3 H3.out).mono ?_); rintro e w4 ⟨rfl, hs⟩; rw [HA.out]; have k2 := ((show Sat w0 w4 (Rd g b (q + 5) :: Blk gr #[.int .i64 0, .int .i64 0] 47 :: Blk gx #[.int .i64 (wl x), .int .i64 (wt x)] 47 :: Blk gd #[.pointer (some ⟨g, 0, none⟩)] 70 :: L) from hs).nth 2 rfl).cell 0 (v := .int .i64 (wl x)) rfl; have k3 := ((show Sat w0 w4 (Rd g b (q + 5) :: Blk gr #[.int .i64 0, .int .i64 0] 47 :: Blk gx #[.int .i64 (wl x), .int .i64 (wt x)] 47 :: Blk gd #[.pointer (some ⟨g, 0, none⟩)] 70 :: L) from hs).nth 2 rfl).free 0; have H4 := Aside0.mk (show Sat w0 w4 (Rd g b (q + 5) :: Blk gr #[.int .i64 0, .int .i64 0] 47 :: Blk gx #[.int .i64 (wl x), .int .i64 (wt x)] 47 :: Blk gd #[.pointer (some ⟨g, 0, none⟩)] 70 :: L) from hs); clear hs)))
    have H5 : Aside0 (Sat w0 (w4.setCell ⟨gx, 0, none⟩ (.int .i64 a)) (Rd g b p3 :: Blk gr #[.int .i64 0, .int .i64 0] 47 :: Blk gx #[.int .i64 a, .int .i64 (wt x)] 47 :: Blk gd #[.pointer (some ⟨g, 0, none⟩)] 70 :: L)) := ⟨by rw [← hp3e]; exact (((H4.out.nth 2 rfl).setBlk 0 (.int .i64 a)).nth 2 rfl).nth 2 rfl⟩
    generalize w4.setCell ⟨gx, 0, none⟩ (.int .i64 a) = w5 at H5 ⊢
    clear k1 k2 k3 H3 H4 hp3e HA
    have HD := Aside0.mk (show Sat w0 w5.drew (Rd g b p3 :: Blk gr #[.int .i64 0, .int .i64 0] 47 :: Blk gx #[.int .i64 a, .int .i64 (wt x)] 47 :: Blk gd #[.pointer (some ⟨g, 0, none⟩)] 70 :: L) from H5.out.drew)
    have q0 := (HD.out.nth 3 rfl).cell 0 (v := .pointer (some ⟨g, 0, none⟩)) rfl
    have q1 := (HD.out.nth 2 rfl).cell 0 (v := .int .i64 a) rfl
    have e63 : IntKind.i64.wrap (63 - (a : Int)) = 63 - (a : Int) := by rw [IntKind.wrap_i64]; omega
    by_cases hg4 : 6 ≤ 8 * b.length - p3
    rotate_left
    · have HO := Aside0.mk (show valueP b p x = none from by rw [HO3.out, gb_bad hg4]; rfl)
      refine start_ (n := 9) (S := fun w' => w'.cell? ⟨gd, 0, none⟩ = some (.pointer (some ⟨g, 0, none⟩)) ∧ w'.cell? ⟨gx, 0, none⟩ = some (.int .i64 a)) (ds := [8]) #[false, false, false, false, false, false, false, false, false] (by kernel_rfl) rfl rfl ⟨q0, q1⟩ (fun hHeld => ?_)
      refine with_tabW Dv.tab5 Dv.bits5 (fun HT_ HW_ => ?_)
      refine pure_ (i := 0) (N := some 17) (v := ?_) (a' := ?_) #[true, false, false, false, false, false, false, false, false] rfl rfl (any_of HT_.out (by kernel_rfl)) (fun _ _ _ h => h) (Or.inl ⟨by rfl, ?_⟩) ?_ ?_
      rotate_left
      · intro w'
        go_simp
        with_reducible rfl
      rotate_left
      · simp only [Act.put, List.setIfInBounds_toArray, List.set_cons_zero, List.set_cons_succ, i64_w, i32_w]
        rfl
      refine take_ (i := 1) (N := some 18) (v := ?_) (a' := ?_) #[true, true, false, false, false, false, false, false, false] rfl rfl (take_ofW HT_.out HW_.out (by kernel_rfl)) (fun _ _ _ h => h) (Or.inl ⟨by rfl, ?_⟩) hHeld ?_ ?_
      rotate_left
      · rintro w' ⟨s0, s1⟩
        go_simp
        with_reducible rfl
      rotate_left
      · simp only [Act.put, List.setIfInBounds_toArray, List.set_cons_zero, List.set_cons_succ, i64_w, i32_w]
        rfl
      refine pure_ (i := 2) (N := some 19) (v := ?_) (a' := ?_) #[true, true, true, false, false, false, false, false, false] rfl rfl (any_of HT_.out (by kernel_rfl)) (fun _ _ _ h => h) (Or.inl ⟨by rfl, ?_⟩) ?_ ?_
      rotate_left
      · intro w'
        go_simp
        with_reducible rfl
      rotate_left
      · simp only [Act.put, List.setIfInBounds_toArray, List.set_cons_zero, List.set_cons_succ, i64_w, i32_w]
        rfl
      refine take_ (i := 3) (N := some 20) (v := ?_) (a' := ?_) #[true, true, true, true, false, false, false, false, false] rfl rfl (take_ofW HT_.out HW_.out (by kernel_rfl)) (fun _ _ _ h => h) (Or.inl ⟨by rfl, ?_⟩) hHeld ?_ ?_
      rotate_left
      · rintro w' ⟨s0, s1⟩
        go_simp
        with_reducible rfl
      rotate_left
      · simp only [Act.put, List.setIfInBounds_toArray, List.set_cons_zero, List.set_cons_succ, i64_w, i32_w]
        rfl
      refine one_ (i := 4) (N := some 21) #[true, true, true, true, true, false, false, false, false] rfl rfl (one_of HT_.out (by kernel_rfl)) (by decide) (fun K hK => ?_)
      refine goesP_ Tryd.func53 (by kernel_rfl) rfl #[.agg #[.pointer (some ⟨g, 0, none⟩)], .int .i64 6] (by rfl) rfl (by simp only [List.map_toArray, List.map_cons, List.map_nil]; rfl) [wrongE] ?_
      with_reducible refine (dget_bad w0 _ _ g b p3 6 6 rfl hb hp3 hg4 HD.out).mono ?_
      rintro e w9 ⟨rfl, hs9⟩
      refine ⟨rfl, ?_⟩
      have HS9 := Aside0.mk hs9
      clear hs9
      exact ⟨rfl, POut.bad HO.out rfl (drop3 HS9.out)⟩
    obtain ⟨n, hn⟩ : ∃ n, getN b p3 6 = n := ⟨_, rfl⟩
    have hn2 : n < 64 := by rw [← hn]; exact getN_lt b p3 6 (by omega)
    have HN := Aside0.mk hn
    have HO4 := Aside0.mk (show valueP b p x = if 63 < a + n then none else finP b (p3 + 6) a (63 - a - n) from by rw [HO3.out, gb_ok hg4, hn]; rfl)
    obtain ⟨tr, htr⟩ : ∃ tr : Int, 63 - (a : Int) - (n : Int) = tr := ⟨_, rfl⟩
    have en : IntKind.i64.wrap (n : Int) = (n : Int) := by rw [IntKind.wrap_i64]; omega
    have et : IntKind.i64.wrap (63 - (a : Int) - (n : Int)) = tr := by rw [IntKind.wrap_i64]; omega
    have HTR := Aside0.mk htr
    clear htr hn HO3
    refine start_ (n := 9) (S := fun w' => w'.cell? ⟨gd, 0, none⟩ = some (.pointer (some ⟨g, 0, none⟩)) ∧ w'.cell? ⟨gx, 0, none⟩ = some (.int .i64 a)) (ds := [8]) #[false, false, false, false, false, false, false, false, false] (by kernel_rfl) rfl rfl ⟨q0, q1⟩ (fun hHeld => ?_)
    refine with_tabW Dv.tab5 Dv.bits5 (fun HT_ HW_ => ?_)
    refine pure_ (i := 0) (N := some 17) (v := ?_) (a' := ?_) #[true, false, false, false, false, false, false, false, false] rfl rfl (any_of HT_.out (by kernel_rfl)) (fun _ _ _ h => h) (Or.inl ⟨by rfl, ?_⟩) ?_ ?_
    rotate_left
    · intro w'
      go_simp
      with_reducible rfl
    rotate_left
    · simp only [Act.put, List.setIfInBounds_toArray, List.set_cons_zero, List.set_cons_succ, i64_w, i32_w]
      rfl
    refine take_ (i := 1) (N := some 18) (v := ?_) (a' := ?_) #[true, true, false, false, false, false, false, false, false] rfl rfl (take_ofW HT_.out HW_.out (by kernel_rfl)) (fun _ _ _ h => h) (Or.inl ⟨by rfl, ?_⟩) hHeld ?_ ?_
    rotate_left
    · rintro w' ⟨s0, s1⟩
      go_simp
      with_reducible rfl
    rotate_left
    · simp only [Act.put, List.setIfInBounds_toArray, List.set_cons_zero, List.set_cons_succ, i64_w, i32_w]
      rfl
    refine pure_ (i := 2) (N := some 19) (v := ?_) (a' := ?_) #[true, true, true, false, false, false, false, false, false] rfl rfl (any_of HT_.out (by kernel_rfl)) (fun _ _ _ h => h) (Or.inl ⟨by rfl, ?_⟩) ?_ ?_
    rotate_left
    · intro w'
      go_simp
      with_reducible rfl
    rotate_left
    · simp only [Act.put, List.setIfInBounds_toArray, List.set_cons_zero, List.set_cons_succ, i64_w, i32_w]
      rfl
    refine take_ (i := 3) (N := some 20) (v := ?_) (a' := ?_) #[true, true, true, true, false, false, false, false, false] rfl rfl (take_ofW HT_.out HW_.out (by kernel_rfl)) (fun _ _ _ h => h) (Or.inl ⟨by rfl, ?_⟩) hHeld ?_ ?_
    rotate_left
    · rintro w' ⟨s0, s1⟩
      go_simp
      with_reducible rfl
    rotate_left
    · simp only [Act.put, List.setIfInBounds_toArray, List.set_cons_zero, List.set_cons_succ, i64_w, i32_w]
      rfl
    refine one_ (i := 4) (N := some 21) #[true, true, true, true, true, false, false, false, false] rfl rfl (one_of HT_.out (by kernel_rfl)) (by decide) (fun K hK => ?_)
    refine goes_ Tryd.func53 (by kernel_rfl) rfl #[.agg #[.pointer (some ⟨g, 0, none⟩)], .int .i64 6] (by rfl) rfl rfl (by simp only [List.map_toArray, List.map_cons, List.map_nil]; rfl) ?_
    with_reducible refine (dget_ok w0 _ _ g b p3 6 6 rfl hb HBY.out hp3 hg4 HD.out).mono ?_
    rintro e w9 ⟨rfl, hs9⟩
    refine ⟨_, rfl, ?_⟩
    rw [HN.out]
    have HS9 := Aside0.mk hs9
    clear hs9
    have p0 := (HS9.out.nth 3 rfl).cell 0 (v := .pointer (some ⟨g, 0, none⟩)) rfl
    have p1 := (HS9.out.nth 2 rfl).cell 0 (v := .int .i64 a) rfl
    refine hK.out _ _ ⟨p0, p1⟩ (fun hHeld => ?_)
    clear hK K
    refine norm_ (a' := ?_) ?_ ?_
    rotate_left
    · show Act.put _ (some 21) _ = _
      simp only [Act.put, List.setIfInBounds_toArray, List.set_cons_zero, List.set_cons_succ, i64_w, i32_w]
      rfl
    refine take_ (i := 5) (N := some 22) (v := ?_) (a' := ?_) #[true, true, true, true, true, true, false, false, false] rfl rfl (take_ofW HT_.out HW_.out (by kernel_rfl)) (fun _ _ _ h => h) (Or.inl ⟨by rfl, ?_⟩) hHeld ?_ ?_
    rotate_left
    · rintro w' ⟨s0, s1⟩
      go_simp
      with_reducible rfl
    rotate_left
    · simp only [Act.put, List.setIfInBounds_toArray, List.set_cons_zero, List.set_cons_succ, i64_w, i32_w]
      rfl
    refine pure_ (i := 6) (N := some 23) (v := ?_) (a' := ?_) #[true, true, true, true, true, true, true, false, false] rfl rfl (any_of HT_.out (by kernel_rfl)) (fun _ _ _ h => h) (Or.inl ⟨by rfl, ?_⟩) ?_ ?_
    rotate_left
    · intro w'
      go_simp
      with_reducible rfl
    rotate_left
    · simp only [Act.put, List.setIfInBounds_toArray, List.set_cons_zero, List.set_cons_succ, i64_w, i32_w]
      rfl
    refine pure_ (i := 7) (N := some 24) (v := ?_) (a' := ?_) #[true, true, true, true, true, true, true, true, false] rfl rfl (any_of HT_.out (by kernel_rfl)) (fun _ _ _ h => h) (Or.inl ⟨by rfl, ?_⟩) ?_ ?_
    rotate_left
    · intro w'
      go_simp
      with_reducible rfl
    rotate_left
    · simp only [Act.put, List.setIfInBounds_toArray, List.set_cons_zero, List.set_cons_succ, i64_w, i32_w]
      rfl
    refine last_ (i := 8) (N := none) #[true, true, true, true, true, true, true, true, true] rfl rfl (one_of HT_.out (by kernel_rfl)) (by decide) (fun K hK => ?_)
    have s1 := (HS9.out.nth 2 rfl).cell 1 (v := .int .i64 (wt x)) rfl
    have t1 := (HS9.out.nth 2 rfl).free 1
    refine skip_ (w1 := ?_) (by rfl) rfl ?_ ?_
    rotate_left
    · go_simp
      rfl
    refine hK.out _ _ ?_
    clear hK K
    refine done_ (done_of HT_.out (by kernel_rfl)) ?_
    have H9 : Aside0 (Sat w0 (w9.setCell ⟨gx, 1, none⟩ (.int .i64 tr)) (Rd g b (p3 + 6) :: Blk gr #[.int .i64 0, .int .i64 0] 47 :: Blk gx #[.int .i64 a, .int .i64 tr] 47 :: Blk gd #[.pointer (some ⟨g, 0, none⟩)] 70 :: L)) := ⟨(((HS9.out.nth 2 rfl).setBlk 1 (.int .i64 tr)).nth 2 rfl).nth 2 rfl⟩
    generalize w9.setCell ⟨gx, 1, none⟩ (.int .i64 tr) = w10b at H9 ⊢
    clear q0 q1 HD H5 HS9 e63 en et s1 t1 HN
    have k2 := (H9.out.nth 2 rfl).cell 0 (v := .int .i64 a) rfl
    have k3 := (H9.out.nth 2 rfl).cell 1 (v := .int .i64 tr) rfl
    have da : decide ((a : Int) < 0) = false := decide_eq_false (by omega)
    obtain ⟨q, hqe⟩ : ∃ q, p3 + 6 = q := ⟨_, rfl⟩
    rw [hqe] at H9
    have hq : q ≤ 8 * b.length := by omega
    by_cases hbad : 63 < a + n
    · have HO := Aside0.mk (show valueP b p x = none from by rw [HO4.out, if_pos hbad])
      have dt : decide (tr < 0) = true := decide_eq_true (by have := HTR.out; omega)
      go_wp2
      exact ⟨rfl, POut.bad HO.out rfl (drop3 H9.out)⟩
    · obtain ⟨t, ht⟩ : ∃ t : Nat, 63 - a - n = t := ⟨_, rfl⟩
      have htt : tr = (t : Int) := by have := HTR.out; omega
      have HFO := Aside0.mk (show valueP b p x = finP b q a t from by rw [HO4.out, if_neg hbad, ht, hqe])
      have HAB := Aside0.mk (show a + t ≤ 63 from by omega)
      subst htt
      have dt : decide ((t : Int) < 0) = false := decide_eq_false (by omega)
      have H10 := H9
      clear HTR HO4 H9 ht hqe
      go_wp2
      have hab : a + t ≤ 63 := HAB.out
      have HSZ := Aside0.mk (size_f hab)
      have HCZ := Aside0.mk (cutN_nat (64 - a - t) (by omega))
      have HE := Aside0.mk (show Sat w0 w10b.drew (Rd g b q :: Blk gr #[.int .i64 0, .int .i64 0] 47 :: Blk gx #[.int .i64 a, .int .i64 t] 47 :: Blk gd #[.pointer (some ⟨g, 0, none⟩)] 70 :: L) from H10.out.drew)
      have q0 := (HE.out.nth 3 rfl).cell 0 (v := .pointer (some ⟨g, 0, none⟩)) rfl
      have q1 := (HE.out.nth 2 rfl).cell 0 (v := .int .i64 a) rfl
      have q2 := (HE.out.nth 2 rfl).cell 1 (v := .int .i64 t) rfl
      by_cases hgz : 64 - a - t ≤ 8 * b.length - q
      · obtain ⟨r, hr⟩ : ∃ r, getN b q (64 - a - t) = r := ⟨_, rfl⟩
        have HO := Aside0.mk (show valueP b p x = some ((r * 2 ^ t % 18446744073709551616, some (a, t)), q + (64 - a - t)) from by rw [HFO.out]; unfold finP; rw [gb_ok hgz, hr]; rfl)
        have HR := Aside0.mk hr
        have HSL := Aside0.mk (shl_value r t (by omega))
        clear hr
        refine start_ (n := 11) (S := fun w' => w'.cell? ⟨gd, 0, none⟩ = some (.pointer (some ⟨g, 0, none⟩)) ∧ w'.cell? ⟨gx, 0, none⟩ = some (.int .i64 a) ∧ w'.cell? ⟨gx, 1, none⟩ = some (.int .i64 t)) (ds := [10]) #[false, false, false, false, false, false, false, false, false, false, false] (by kernel_rfl) rfl rfl ⟨q0, q1, q2⟩ (fun hHeld => ?_)
        refine with_tabW Dv.tab8 Dv.bits8 (fun HT_ HW_ => ?_)
        refine pure_ (i := 4) (N := some 39) (v := ?_) (a' := ?_) #[false, false, false, false, true, false, false, false, false, false, false] rfl rfl (any_of HT_.out (by kernel_rfl)) (fun _ _ _ h => h) (Or.inl ⟨by rfl, ?_⟩) ?_ ?_
        rotate_left
        · intro w'
          go_simp
          with_reducible rfl
        rotate_left
        · simp only [Act.put, List.setIfInBounds_toArray, List.set_cons_zero, List.set_cons_succ, i64_w, i32_w]
          rfl
        refine take_ (i := 0) (N := some 35) (v := ?_) (a' := ?_) #[true, false, false, false, true, false, false, false, false, false, false] rfl rfl (take_ofW HT_.out HW_.out (by kernel_rfl)) (fun _ _ _ h => h) (Or.inl ⟨by rfl, ?_⟩) hHeld ?_ ?_
        rotate_left
        · rintro w' ⟨s0, s1, s2⟩
          go_simp
          with_reducible rfl
        rotate_left
        · simp only [Act.put, List.setIfInBounds_toArray, List.set_cons_zero, List.set_cons_succ, i64_w, i32_w]
          rfl
        refine take_ (i := 1) (N := some 36) (v := ?_) (a' := ?_) #[true, true, false, false, true, false, false, false, false, false, false] rfl rfl (take_ofW HT_.out HW_.out (by kernel_rfl)) (fun _ _ _ h => h) (Or.inl ⟨by rfl, ?_⟩) hHeld ?_ ?_
        rotate_left
        · rintro w' ⟨s0, s1, s2⟩
          go_simp
          with_reducible rfl
        rotate_left
        · simp only [Act.put, List.setIfInBounds_toArray, List.set_cons_zero, List.set_cons_succ, i64_w, i32_w]
          rfl
        refine take_ (i := 5) (N := some 40) (v := ?_) (a' := ?_) #[true, true, false, false, true, true, false, false, false, false, false] rfl rfl (take_ofW HT_.out HW_.out (by kernel_rfl)) (fun _ _ _ h => h) (Or.inl ⟨by rfl, ?_⟩) hHeld ?_ ?_
        rotate_left
        · rintro w' ⟨s0, s1, s2⟩
          go_simp
          with_reducible rfl
        rotate_left
        · simp only [Act.put, List.setIfInBounds_toArray, List.set_cons_zero, List.set_cons_succ, i64_w, i32_w]
          rfl
        refine take_ (i := 6) (N := some 41) (v := ?_) (a' := ?_) #[true, true, false, false, true, true, true, false, false, false, false] rfl rfl (take_ofW HT_.out HW_.out (by kernel_rfl)) (fun _ _ _ h => h) (Or.inl ⟨by rfl, ?_⟩) hHeld ?_ ?_
        rotate_left
        · rintro w' ⟨s0, s1, s2⟩
          go_simp
          with_reducible rfl
        rotate_left
        · simp only [Act.put, List.setIfInBounds_toArray, List.set_cons_zero, List.set_cons_succ, i64_w, i32_w]
          rfl
        refine take_ (i := 8) (N := some 43) (v := ?_) (a' := ?_) #[true, true, false, false, true, true, true, false, true, false, false] rfl rfl (take_ofW HT_.out HW_.out (by kernel_rfl)) (fun _ _ _ h => h) (Or.inl ⟨by rfl, ?_⟩) hHeld ?_ ?_
        rotate_left
        · rintro w' ⟨s0, s1, s2⟩
          go_simp
          with_reducible rfl
        rotate_left
        · simp only [Act.put, List.setIfInBounds_toArray, List.set_cons_zero, List.set_cons_succ, i64_w, i32_w]
          rfl
        refine one_ (i := 2) (N := some 37) #[true, true, true, false, true, true, true, false, true, false, false] rfl rfl (one_of HT_.out (by kernel_rfl)) (by decide) (fun K hK => ?_)
        refine goes_ Tryd.func48 (by kernel_rfl) rfl #[.agg #[.int .i64 a, .int .i64 t]] (by rfl) rfl rfl (by simp only [List.map_toArray, List.map_cons, List.map_nil]; rfl) ?_
        with_reducible refine (tsz_window_size.calls (a : Int) (t : Int) _ _ HSZ.out).mono ?_
        rintro e w10 ⟨rfl, hb10⟩
        refine ⟨_, rfl, ?_⟩
        have HS10 := Aside0.mk (HE.out.step hb10)
        clear hb10
        have p0 := (HS10.out.nth 3 rfl).cell 0 (v := .pointer (some ⟨g, 0, none⟩)) rfl
        have p1 := (HS10.out.nth 2 rfl).cell 0 (v := .int .i64 a) rfl
        have p2 := (HS10.out.nth 2 rfl).cell 1 (v := .int .i64 t) rfl
        refine hK.out _ _ ⟨p0, p1, p2⟩ (fun hHeld => ?_)
        clear hK K
        refine norm_ (a' := ?_) ?_ ?_
        rotate_left
        · show Act.put _ (some 37) _ = _
          simp only [Act.put, List.setIfInBounds_toArray, List.set_cons_zero, List.set_cons_succ, i64_w, i32_w]
          rfl
        refine one_ (i := 3) (N := some 38) #[true, true, true, true, true, true, true, false, true, false, false] rfl rfl (one_of HT_.out (by kernel_rfl)) (by decide) (fun K hK => ?_)
        refine goes_ Tryd.func53 (by kernel_rfl) rfl #[.agg #[.pointer (some ⟨g, 0, none⟩)], .int .i64 ((64 - a - t : Nat) : Int)] (by rfl) rfl rfl (by simp only [List.map_toArray, List.map_cons, List.map_nil]; rfl) ?_
        with_reducible refine (dget_ok w0 _ _ g b q ((64 - a - t : Nat) : Int) (64 - a - t) HCZ.out hb HBY.out hq hgz HS10.out).mono ?_
        rintro e w11 ⟨rfl, hs11⟩
        refine ⟨_, rfl, ?_⟩
        rw [HR.out]
        have HS11 := Aside0.mk hs11
        clear hs11
        have r0 := (HS11.out.nth 3 rfl).cell 0 (v := .pointer (some ⟨g, 0, none⟩)) rfl
        have r1 := (HS11.out.nth 2 rfl).cell 0 (v := .int .i64 a) rfl
        have r2 := (HS11.out.nth 2 rfl).cell 1 (v := .int .i64 t) rfl
        refine hK.out _ _ ⟨r0, r1, r2⟩ (fun hHeld => ?_)
        clear hK K
        refine norm_ (a' := ?_) ?_ ?_
        rotate_left
        · show Act.put _ (some 38) _ = _
          simp only [Act.put, List.setIfInBounds_toArray, List.set_cons_zero, List.set_cons_succ, i64_w, i32_w]
          rfl
        refine pure_ (i := 7) (N := some 42) (v := ?_) (a' := ?_) #[true, true, true, true, true, true, true, true, true, false, false] rfl rfl (any_of HT_.out (by kernel_rfl)) (fun _ _ _ h => h) (Or.inl ⟨by rfl, ?_⟩) ?_ ?_
        rotate_left
        · intro w'
          go_simp
          with_reducible rfl
        rotate_left
        · simp only [Act.put, List.setIfInBounds_toArray, List.set_cons_zero, List.set_cons_succ, i64_w, i32_w]
          rfl
        refine pure_ (i := 9) (N := some 4) (v := ?_) (a' := ?_) #[true, true, true, true, true, true, true, true, true, true, false] rfl rfl (any_of HT_.out (by kernel_rfl)) (fun _ _ _ h => h) (Or.inl ⟨by rfl, ?_⟩) ?_ ?_
        rotate_left
        · intro w'
          go_simp
          with_reducible rfl
        rotate_left
        · simp only [Act.put, List.setIfInBounds_toArray, List.set_cons_zero, List.set_cons_succ, i64_w, i32_w]
          rfl
        refine last_ (i := 10) (N := none) #[true, true, true, true, true, true, true, true, true, true, true] rfl rfl (one_of HT_.out (by kernel_rfl)) (by decide) (fun K hK => ?_)
        have s0 := (HS11.out.nth 1 rfl).cell 0 (v := .int .i64 0) rfl
        have s1 := (HS11.out.nth 1 rfl).cell 1 (v := .int .i64 0) rfl
        have t0 := (HS11.out.nth 1 rfl).free 0
        have t1 := (HS11.out.nth 1 rfl).free 1
        refine skip_ (w1 := ?_) (by rfl) rfl ?_ ?_
        rotate_left
        · go_simp
          rfl
        refine hK.out _ _ ?_
        clear hK K
        refine done_ (done_of HT_.out (by kernel_rfl)) ?_
        have HY := Aside0.mk ((((HS11.out.nth 1 rfl).setBlk 0 (.int .i64 a)).setBlk 1 (.int .i64 t)))
        go_wp2
        refine bodyPost_ret (results_tc rfl _ _ gr 47 #[.int .i64 a, .int .i64 t] (0, 0) _ rfl HY.out.blk Tryd.underlying47 rfl (by kernel_rfl)) rfl ?_
        refine POut.ok HO.out ?_ (drop3 ((show Sat w0 _ (Blk gr _ 47 :: Rd g b (q + (64 - a - t)) :: Blk gx _ 47 :: Blk gd _ 70 :: L) from HY.out).nth 1 rfl))
        show Ending.returned (.tuple #[.int .u64 (IntKind.u64.wrap ((r : Int) * 2 ^ min (IntKind.u64.wrap (t : Int)).toNat 64)), .agg #[.int .i64 a, .int .i64 t]]) = _
        rw [HSL.out]
        rfl
      · have HO := Aside0.mk (show valueP b p x = none from by rw [HFO.out]; unfold finP; rw [gb_bad hgz]; rfl)
        refine start_ (n := 11) (S := fun w' => w'.cell? ⟨gd, 0, none⟩ = some (.pointer (some ⟨g, 0, none⟩)) ∧ w'.cell? ⟨gx, 0, none⟩ = some (.int .i64 a) ∧ w'.cell? ⟨gx, 1, none⟩ = some (.int .i64 t)) (ds := [10]) #[false, false, false, false, false, false, false, false, false, false, false] (by kernel_rfl) rfl rfl ⟨q0, q1, q2⟩ (fun hHeld => ?_)
        refine with_tabW Dv.tab8 Dv.bits8 (fun HT_ HW_ => ?_)
        refine pure_ (i := 4) (N := some 39) (v := ?_) (a' := ?_) #[false, false, false, false, true, false, false, false, false, false, false] rfl rfl (any_of HT_.out (by kernel_rfl)) (fun _ _ _ h => h) (Or.inl ⟨by rfl, ?_⟩) ?_ ?_
        rotate_left
        · intro w'
          go_simp
          with_reducible rfl
        rotate_left
        · simp only [Act.put, List.setIfInBounds_toArray, List.set_cons_zero, List.set_cons_succ, i64_w, i32_w]
          rfl
        refine take_ (i := 0) (N := some 35) (v := ?_) (a' := ?_) #[true, false, false, false, true, false, false, false, false, false, false] rfl rfl (take_ofW HT_.out HW_.out (by kernel_rfl)) (fun _ _ _ h => h) (Or.inl ⟨by rfl, ?_⟩) hHeld ?_ ?_
        rotate_left
        · rintro w' ⟨s0, s1, s2⟩
          go_simp
          with_reducible rfl
        rotate_left
        · simp only [Act.put, List.setIfInBounds_toArray, List.set_cons_zero, List.set_cons_succ, i64_w, i32_w]
          rfl
        refine take_ (i := 1) (N := some 36) (v := ?_) (a' := ?_) #[true, true, false, false, true, false, false, false, false, false, false] rfl rfl (take_ofW HT_.out HW_.out (by kernel_rfl)) (fun _ _ _ h => h) (Or.inl ⟨by rfl, ?_⟩) hHeld ?_ ?_
        rotate_left
        · rintro w' ⟨s0, s1, s2⟩
          go_simp
          with_reducible rfl
        rotate_left
        · simp only [Act.put, List.setIfInBounds_toArray, List.set_cons_zero, List.set_cons_succ, i64_w, i32_w]
          rfl
        refine take_ (i := 5) (N := some 40) (v := ?_) (a' := ?_) #[true, true, false, false, true, true, false, false, false, false, false] rfl rfl (take_ofW HT_.out HW_.out (by kernel_rfl)) (fun _ _ _ h => h) (Or.inl ⟨by rfl, ?_⟩) hHeld ?_ ?_
        rotate_left
        · rintro w' ⟨s0, s1, s2⟩
          go_simp
          with_reducible rfl
        rotate_left
        · simp only [Act.put, List.setIfInBounds_toArray, List.set_cons_zero, List.set_cons_succ, i64_w, i32_w]
          rfl
        refine take_ (i := 6) (N := some 41) (v := ?_) (a' := ?_) #[true, true, false, false, true, true, true, false, false, false, false] rfl rfl (take_ofW HT_.out HW_.out (by kernel_rfl)) (fun _ _ _ h => h) (Or.inl ⟨by rfl, ?_⟩) hHeld ?_ ?_
        rotate_left
        · rintro w' ⟨s0, s1, s2⟩
          go_simp
          with_reducible rfl
        rotate_left
        · simp only [Act.put, List.setIfInBounds_toArray, List.set_cons_zero, List.set_cons_succ, i64_w, i32_w]
          rfl
        refine take_ (i := 8) (N := some 43) (v := ?_) (a' := ?_) #[true, true, false, false, true, true, true, false, true, false, false] rfl rfl (take_ofW HT_.out HW_.out (by kernel_rfl)) (fun _ _ _ h => h) (Or.inl ⟨by rfl, ?_⟩) hHeld ?_ ?_
        rotate_left
        · rintro w' ⟨s0, s1, s2⟩
          go_simp
          with_reducible rfl
        rotate_left
        · simp only [Act.put, List.setIfInBounds_toArray, List.set_cons_zero, List.set_cons_succ, i64_w, i32_w]
          rfl
        refine one_ (i := 2) (N := some 37) #[true, true, true, false, true, true, true, false, true, false, false] rfl rfl (one_of HT_.out (by kernel_rfl)) (by decide) (fun K hK => ?_)
        refine goes_ Tryd.func48 (by kernel_rfl) rfl #[.agg #[.int .i64 a, .int .i64 t]] (by rfl) rfl rfl (by simp only [List.map_toArray, List.map_cons, List.map_nil]; rfl) ?_
        with_reducible refine (tsz_window_size.calls (a : Int) (t : Int) _ _ HSZ.out).mono ?_
        rintro e w10 ⟨rfl, hb10⟩
        refine ⟨_, rfl, ?_⟩
        have HS10 := Aside0.mk (HE.out.step hb10)
        clear hb10
        have p0 := (HS10.out.nth 3 rfl).cell 0 (v := .pointer (some ⟨g, 0, none⟩)) rfl
        have p1 := (HS10.out.nth 2 rfl).cell 0 (v := .int .i64 a) rfl
        have p2 := (HS10.out.nth 2 rfl).cell 1 (v := .int .i64 t) rfl
        refine hK.out _ _ ⟨p0, p1, p2⟩ (fun hHeld => ?_)
        clear hK K
        refine norm_ (a' := ?_) ?_ ?_
        rotate_left
        · show Act.put _ (some 37) _ = _
          simp only [Act.put, List.setIfInBounds_toArray, List.set_cons_zero, List.set_cons_succ, i64_w, i32_w]
          rfl
        refine one_ (i := 3) (N := some 38) #[true, true, true, true, true, true, true, false, true, false, false] rfl rfl (one_of HT_.out (by kernel_rfl)) (by decide) (fun K hK => ?_)
        refine goesP_ Tryd.func53 (by kernel_rfl) rfl #[.agg #[.pointer (some ⟨g, 0, none⟩)], .int .i64 ((64 - a - t : Nat) : Int)] (by rfl) rfl (by simp only [List.map_toArray, List.map_cons, List.map_nil]; rfl) [wrongE] ?_
        with_reducible refine (dget_bad w0 _ _ g b q ((64 - a - t : Nat) : Int) (64 - a - t) HCZ.out hb hq hgz HS10.out).mono ?_
        rintro e w11 ⟨rfl, hs11⟩
        refine ⟨rfl, ?_⟩
        have HS11 := Aside0.mk hs11
        clear hs11
        exact ⟨rfl, POut.bad HO.out rfl (drop3 HS11.out)⟩
  · have du : ((u : Int) == 1) = false := by rw [beq_eq_false_iff_ne]; omega
    have HO2 := Aside0.mk (show valueP b p x = heldP b q x from by rw [HO1.out, gb_ok hg2, hu]; simp only [Option.bind_some]; rw [if_neg hu0, hqe])
    clear hu HO1
    go_upto_region 6 with (first | (go_at_call 53; go_loud ((with_reducible refine (dget_ok w0 w2 _ g b p1 1 1 rfl hb HBY.out hp1 hg2 H2.out).mono ?_); rintro e w3 ⟨rfl, hs⟩; rw [HU.out]; have H3 := Aside0.mk (show Sat w0 w3 (Rd g b (p1 + 1) :: Blk gr #[.int .i64 0, .int .i64 0] 47 :: Blk gx #[.int .i64 (wl x), .int .i64 (wt x)] 47 :: Blk gd #[.pointer (some ⟨g, 0, none⟩)] 70 :: L) from hs); clear hs)))
    rw [hqe] at H3
    clear k1 H2 hqe
    cases x with
    | none =>
      have H4 := Aside0.mk (show Sat w0 w3 (Rd g b q :: Blk gr #[.int .i64 0, .int .i64 0] 47 :: Blk gx #[.int .i64 (-1), .int .i64 (-1)] 47 :: Blk gd #[.pointer (some ⟨g, 0, none⟩)] 70 :: L) from H3.out)
      have k2 := (H4.out.nth 2 rfl).cell 0 (v := .int .i64 (-1)) rfl
      have k3 := (H4.out.nth 2 rfl).cell 1 (v := .int .i64 (-1)) rfl
      clear H3
      go_wp2
      exact ⟨rfl, POut.bad HO2.out rfl (drop3 H4.out)⟩
    | some pr =>
      obtain ⟨a, t⟩ := pr
      have HAB := Aside0.mk (HX.out _ rfl).2
      have HFO := Aside0.mk (show valueP b p (some (a, t)) = finP b q a t from HO2.out)
      have H4 := Aside0.mk (show Sat w0 w3 (Rd g b q :: Blk gr #[.int .i64 0, .int .i64 0] 47 :: Blk gx #[.int .i64 a, .int .i64 t] 47 :: Blk gd #[.pointer (some ⟨g, 0, none⟩)] 70 :: L) from H3.out)
      have k2 := (H4.out.nth 2 rfl).cell 0 (v := .int .i64 a) rfl
      have k3 := (H4.out.nth 2 rfl).cell 1 (v := .int .i64 t) rfl
      have da : decide ((a : Int) < 0) = false := decide_eq_false (by omega)
      have dt : decide ((t : Int) < 0) = false := decide_eq_false (by omega)
      clear H3 HO2
      go_wp2
      have hab : a + t ≤ 63 := HAB.out
      have HSZ := Aside0.mk (size_f hab)
      have HCZ := Aside0.mk (cutN_nat (64 - a - t) (by omega))
      have HE := Aside0.mk (show Sat w0 w3.drew (Rd g b q :: Blk gr #[.int .i64 0, .int .i64 0] 47 :: Blk gx #[.int .i64 a, .int .i64 t] 47 :: Blk gd #[.pointer (some ⟨g, 0, none⟩)] 70 :: L) from H4.out.drew)
      have q0 := (HE.out.nth 3 rfl).cell 0 (v := .pointer (some ⟨g, 0, none⟩)) rfl
      have q1 := (HE.out.nth 2 rfl).cell 0 (v := .int .i64 a) rfl
      have q2 := (HE.out.nth 2 rfl).cell 1 (v := .int .i64 t) rfl
      by_cases hgz : 64 - a - t ≤ 8 * b.length - q
      · obtain ⟨r, hr⟩ : ∃ r, getN b q (64 - a - t) = r := ⟨_, rfl⟩
        have HO := Aside0.mk (show valueP b p (some (a, t)) = some ((r * 2 ^ t % 18446744073709551616, some (a, t)), q + (64 - a - t)) from by rw [HFO.out]; unfold finP; rw [gb_ok hgz, hr]; rfl)
        have HR := Aside0.mk hr
        have HSL := Aside0.mk (shl_value r t (by omega))
        clear hr
        refine start_ (n := 11) (S := fun w' => w'.cell? ⟨gd, 0, none⟩ = some (.pointer (some ⟨g, 0, none⟩)) ∧ w'.cell? ⟨gx, 0, none⟩ = some (.int .i64 a) ∧ w'.cell? ⟨gx, 1, none⟩ = some (.int .i64 t)) (ds := [10]) #[false, false, false, false, false, false, false, false, false, false, false] (by kernel_rfl) rfl rfl ⟨q0, q1, q2⟩ (fun hHeld => ?_)
        refine with_tabW Dv.tab8 Dv.bits8 (fun HT_ HW_ => ?_)
        refine pure_ (i := 4) (N := some 39) (v := ?_) (a' := ?_) #[false, false, false, false, true, false, false, false, false, false, false] rfl rfl (any_of HT_.out (by kernel_rfl)) (fun _ _ _ h => h) (Or.inl ⟨by rfl, ?_⟩) ?_ ?_
        rotate_left
        · intro w'
          go_simp
          with_reducible rfl
        rotate_left
        · simp only [Act.put, List.setIfInBounds_toArray, List.set_cons_zero, List.set_cons_succ, i64_w, i32_w]
          rfl
        refine take_ (i := 0) (N := some 35) (v := ?_) (a' := ?_) #[true, false, false, false, true, false, false, false, false, false, false] rfl rfl (take_ofW HT_.out HW_.out (by kernel_rfl)) (fun _ _ _ h => h) (Or.inl ⟨by rfl, ?_⟩) hHeld ?_ ?_
        rotate_left
        · rintro w' ⟨s0, s1, s2⟩
          go_simp
          with_reducible rfl
        rotate_left
        · simp only [Act.put, List.setIfInBounds_toArray, List.set_cons_zero, List.set_cons_succ, i64_w, i32_w]
          rfl
        refine take_ (i := 1) (N := some 36) (v := ?_) (a' := ?_) #[true, true, false, false, true, false, false, false, false, false, false] rfl rfl (take_ofW HT_.out HW_.out (by kernel_rfl)) (fun _ _ _ h => h) (Or.inl ⟨by rfl, ?_⟩) hHeld ?_ ?_
        rotate_left
        · rintro w' ⟨s0, s1, s2⟩
          go_simp
          with_reducible rfl
        rotate_left
        · simp only [Act.put, List.setIfInBounds_toArray, List.set_cons_zero, List.set_cons_succ, i64_w, i32_w]
          rfl
        refine take_ (i := 5) (N := some 40) (v := ?_) (a' := ?_) #[true, true, false, false, true, true, false, false, false, false, false] rfl rfl (take_ofW HT_.out HW_.out (by kernel_rfl)) (fun _ _ _ h => h) (Or.inl ⟨by rfl, ?_⟩) hHeld ?_ ?_
        rotate_left
        · rintro w' ⟨s0, s1, s2⟩
          go_simp
          with_reducible rfl
        rotate_left
        · simp only [Act.put, List.setIfInBounds_toArray, List.set_cons_zero, List.set_cons_succ, i64_w, i32_w]
          rfl
        refine take_ (i := 6) (N := some 41) (v := ?_) (a' := ?_) #[true, true, false, false, true, true, true, false, false, false, false] rfl rfl (take_ofW HT_.out HW_.out (by kernel_rfl)) (fun _ _ _ h => h) (Or.inl ⟨by rfl, ?_⟩) hHeld ?_ ?_
        rotate_left
        · rintro w' ⟨s0, s1, s2⟩
          go_simp
          with_reducible rfl
        rotate_left
        · simp only [Act.put, List.setIfInBounds_toArray, List.set_cons_zero, List.set_cons_succ, i64_w, i32_w]
          rfl
        refine take_ (i := 8) (N := some 43) (v := ?_) (a' := ?_) #[true, true, false, false, true, true, true, false, true, false, false] rfl rfl (take_ofW HT_.out HW_.out (by kernel_rfl)) (fun _ _ _ h => h) (Or.inl ⟨by rfl, ?_⟩) hHeld ?_ ?_
        rotate_left
        · rintro w' ⟨s0, s1, s2⟩
          go_simp
          with_reducible rfl
        rotate_left
        · simp only [Act.put, List.setIfInBounds_toArray, List.set_cons_zero, List.set_cons_succ, i64_w, i32_w]
          rfl
        refine one_ (i := 2) (N := some 37) #[true, true, true, false, true, true, true, false, true, false, false] rfl rfl (one_of HT_.out (by kernel_rfl)) (by decide) (fun K hK => ?_)
        refine goes_ Tryd.func48 (by kernel_rfl) rfl #[.agg #[.int .i64 a, .int .i64 t]] (by rfl) rfl rfl (by simp only [List.map_toArray, List.map_cons, List.map_nil]; rfl) ?_
        with_reducible refine (tsz_window_size.calls (a : Int) (t : Int) _ _ HSZ.out).mono ?_
        rintro e w10 ⟨rfl, hb10⟩
        refine ⟨_, rfl, ?_⟩
        have HS10 := Aside0.mk (HE.out.step hb10)
        clear hb10
        have p0 := (HS10.out.nth 3 rfl).cell 0 (v := .pointer (some ⟨g, 0, none⟩)) rfl
        have p1 := (HS10.out.nth 2 rfl).cell 0 (v := .int .i64 a) rfl
        have p2 := (HS10.out.nth 2 rfl).cell 1 (v := .int .i64 t) rfl
        refine hK.out _ _ ⟨p0, p1, p2⟩ (fun hHeld => ?_)
        clear hK K
        refine norm_ (a' := ?_) ?_ ?_
        rotate_left
        · show Act.put _ (some 37) _ = _
          simp only [Act.put, List.setIfInBounds_toArray, List.set_cons_zero, List.set_cons_succ, i64_w, i32_w]
          rfl
        refine one_ (i := 3) (N := some 38) #[true, true, true, true, true, true, true, false, true, false, false] rfl rfl (one_of HT_.out (by kernel_rfl)) (by decide) (fun K hK => ?_)
        refine goes_ Tryd.func53 (by kernel_rfl) rfl #[.agg #[.pointer (some ⟨g, 0, none⟩)], .int .i64 ((64 - a - t : Nat) : Int)] (by rfl) rfl rfl (by simp only [List.map_toArray, List.map_cons, List.map_nil]; rfl) ?_
        with_reducible refine (dget_ok w0 _ _ g b q ((64 - a - t : Nat) : Int) (64 - a - t) HCZ.out hb HBY.out hq hgz HS10.out).mono ?_
        rintro e w11 ⟨rfl, hs11⟩
        refine ⟨_, rfl, ?_⟩
        rw [HR.out]
        have HS11 := Aside0.mk hs11
        clear hs11
        have r0 := (HS11.out.nth 3 rfl).cell 0 (v := .pointer (some ⟨g, 0, none⟩)) rfl
        have r1 := (HS11.out.nth 2 rfl).cell 0 (v := .int .i64 a) rfl
        have r2 := (HS11.out.nth 2 rfl).cell 1 (v := .int .i64 t) rfl
        refine hK.out _ _ ⟨r0, r1, r2⟩ (fun hHeld => ?_)
        clear hK K
        refine norm_ (a' := ?_) ?_ ?_
        rotate_left
        · show Act.put _ (some 38) _ = _
          simp only [Act.put, List.setIfInBounds_toArray, List.set_cons_zero, List.set_cons_succ, i64_w, i32_w]
          rfl
        refine pure_ (i := 7) (N := some 42) (v := ?_) (a' := ?_) #[true, true, true, true, true, true, true, true, true, false, false] rfl rfl (any_of HT_.out (by kernel_rfl)) (fun _ _ _ h => h) (Or.inl ⟨by rfl, ?_⟩) ?_ ?_
        rotate_left
        · intro w'
          go_simp
          with_reducible rfl
        rotate_left
        · simp only [Act.put, List.setIfInBounds_toArray, List.set_cons_zero, List.set_cons_succ, i64_w, i32_w]
          rfl
        refine pure_ (i := 9) (N := some 4) (v := ?_) (a' := ?_) #[true, true, true, true, true, true, true, true, true, true, false] rfl rfl (any_of HT_.out (by kernel_rfl)) (fun _ _ _ h => h) (Or.inl ⟨by rfl, ?_⟩) ?_ ?_
        rotate_left
        · intro w'
          go_simp
          with_reducible rfl
        rotate_left
        · simp only [Act.put, List.setIfInBounds_toArray, List.set_cons_zero, List.set_cons_succ, i64_w, i32_w]
          rfl
        refine last_ (i := 10) (N := none) #[true, true, true, true, true, true, true, true, true, true, true] rfl rfl (one_of HT_.out (by kernel_rfl)) (by decide) (fun K hK => ?_)
        have s0 := (HS11.out.nth 1 rfl).cell 0 (v := .int .i64 0) rfl
        have s1 := (HS11.out.nth 1 rfl).cell 1 (v := .int .i64 0) rfl
        have t0 := (HS11.out.nth 1 rfl).free 0
        have t1 := (HS11.out.nth 1 rfl).free 1
        refine skip_ (w1 := ?_) (by rfl) rfl ?_ ?_
        rotate_left
        · go_simp
          rfl
        refine hK.out _ _ ?_
        clear hK K
        refine done_ (done_of HT_.out (by kernel_rfl)) ?_
        have HY := Aside0.mk ((((HS11.out.nth 1 rfl).setBlk 0 (.int .i64 a)).setBlk 1 (.int .i64 t)))
        go_wp2
        refine bodyPost_ret (results_tc rfl _ _ gr 47 #[.int .i64 a, .int .i64 t] (0, 0) _ rfl HY.out.blk Tryd.underlying47 rfl (by kernel_rfl)) rfl ?_
        refine POut.ok HO.out ?_ (drop3 ((show Sat w0 _ (Blk gr _ 47 :: Rd g b (q + (64 - a - t)) :: Blk gx _ 47 :: Blk gd _ 70 :: L) from HY.out).nth 1 rfl))
        show Ending.returned (.tuple #[.int .u64 (IntKind.u64.wrap ((r : Int) * 2 ^ min (IntKind.u64.wrap (t : Int)).toNat 64)), .agg #[.int .i64 a, .int .i64 t]]) = _
        rw [HSL.out]
        rfl
      · have HO := Aside0.mk (show valueP b p (some (a, t)) = none from by rw [HFO.out]; unfold finP; rw [gb_bad hgz]; rfl)
        refine start_ (n := 11) (S := fun w' => w'.cell? ⟨gd, 0, none⟩ = some (.pointer (some ⟨g, 0, none⟩)) ∧ w'.cell? ⟨gx, 0, none⟩ = some (.int .i64 a) ∧ w'.cell? ⟨gx, 1, none⟩ = some (.int .i64 t)) (ds := [10]) #[false, false, false, false, false, false, false, false, false, false, false] (by kernel_rfl) rfl rfl ⟨q0, q1, q2⟩ (fun hHeld => ?_)
        refine with_tabW Dv.tab8 Dv.bits8 (fun HT_ HW_ => ?_)
        refine pure_ (i := 4) (N := some 39) (v := ?_) (a' := ?_) #[false, false, false, false, true, false, false, false, false, false, false] rfl rfl (any_of HT_.out (by kernel_rfl)) (fun _ _ _ h => h) (Or.inl ⟨by rfl, ?_⟩) ?_ ?_
        rotate_left
        · intro w'
          go_simp
          with_reducible rfl
        rotate_left
        · simp only [Act.put, List.setIfInBounds_toArray, List.set_cons_zero, List.set_cons_succ, i64_w, i32_w]
          rfl
        refine take_ (i := 0) (N := some 35) (v := ?_) (a' := ?_) #[true, false, false, false, true, false, false, false, false, false, false] rfl rfl (take_ofW HT_.out HW_.out (by kernel_rfl)) (fun _ _ _ h => h) (Or.inl ⟨by rfl, ?_⟩) hHeld ?_ ?_
        rotate_left
        · rintro w' ⟨s0, s1, s2⟩
          go_simp
          with_reducible rfl
        rotate_left
        · simp only [Act.put, List.setIfInBounds_toArray, List.set_cons_zero, List.set_cons_succ, i64_w, i32_w]
          rfl
        refine take_ (i := 1) (N := some 36) (v := ?_) (a' := ?_) #[true, true, false, false, true, false, false, false, false, false, false] rfl rfl (take_ofW HT_.out HW_.out (by kernel_rfl)) (fun _ _ _ h => h) (Or.inl ⟨by rfl, ?_⟩) hHeld ?_ ?_
        rotate_left
        · rintro w' ⟨s0, s1, s2⟩
          go_simp
          with_reducible rfl
        rotate_left
        · simp only [Act.put, List.setIfInBounds_toArray, List.set_cons_zero, List.set_cons_succ, i64_w, i32_w]
          rfl
        refine take_ (i := 5) (N := some 40) (v := ?_) (a' := ?_) #[true, true, false, false, true, true, false, false, false, false, false] rfl rfl (take_ofW HT_.out HW_.out (by kernel_rfl)) (fun _ _ _ h => h) (Or.inl ⟨by rfl, ?_⟩) hHeld ?_ ?_
        rotate_left
        · rintro w' ⟨s0, s1, s2⟩
          go_simp
          with_reducible rfl
        rotate_left
        · simp only [Act.put, List.setIfInBounds_toArray, List.set_cons_zero, List.set_cons_succ, i64_w, i32_w]
          rfl
        refine take_ (i := 6) (N := some 41) (v := ?_) (a' := ?_) #[true, true, false, false, true, true, true, false, false, false, false] rfl rfl (take_ofW HT_.out HW_.out (by kernel_rfl)) (fun _ _ _ h => h) (Or.inl ⟨by rfl, ?_⟩) hHeld ?_ ?_
        rotate_left
        · rintro w' ⟨s0, s1, s2⟩
          go_simp
          with_reducible rfl
        rotate_left
        · simp only [Act.put, List.setIfInBounds_toArray, List.set_cons_zero, List.set_cons_succ, i64_w, i32_w]
          rfl
        refine take_ (i := 8) (N := some 43) (v := ?_) (a' := ?_) #[true, true, false, false, true, true, true, false, true, false, false] rfl rfl (take_ofW HT_.out HW_.out (by kernel_rfl)) (fun _ _ _ h => h) (Or.inl ⟨by rfl, ?_⟩) hHeld ?_ ?_
        rotate_left
        · rintro w' ⟨s0, s1, s2⟩
          go_simp
          with_reducible rfl
        rotate_left
        · simp only [Act.put, List.setIfInBounds_toArray, List.set_cons_zero, List.set_cons_succ, i64_w, i32_w]
          rfl
        refine one_ (i := 2) (N := some 37) #[true, true, true, false, true, true, true, false, true, false, false] rfl rfl (one_of HT_.out (by kernel_rfl)) (by decide) (fun K hK => ?_)
        refine goes_ Tryd.func48 (by kernel_rfl) rfl #[.agg #[.int .i64 a, .int .i64 t]] (by rfl) rfl rfl (by simp only [List.map_toArray, List.map_cons, List.map_nil]; rfl) ?_
        with_reducible refine (tsz_window_size.calls (a : Int) (t : Int) _ _ HSZ.out).mono ?_
        rintro e w10 ⟨rfl, hb10⟩
        refine ⟨_, rfl, ?_⟩
        have HS10 := Aside0.mk (HE.out.step hb10)
        clear hb10
        have p0 := (HS10.out.nth 3 rfl).cell 0 (v := .pointer (some ⟨g, 0, none⟩)) rfl
        have p1 := (HS10.out.nth 2 rfl).cell 0 (v := .int .i64 a) rfl
        have p2 := (HS10.out.nth 2 rfl).cell 1 (v := .int .i64 t) rfl
        refine hK.out _ _ ⟨p0, p1, p2⟩ (fun hHeld => ?_)
        clear hK K
        refine norm_ (a' := ?_) ?_ ?_
        rotate_left
        · show Act.put _ (some 37) _ = _
          simp only [Act.put, List.setIfInBounds_toArray, List.set_cons_zero, List.set_cons_succ, i64_w, i32_w]
          rfl
        refine one_ (i := 3) (N := some 38) #[true, true, true, true, true, true, true, false, true, false, false] rfl rfl (one_of HT_.out (by kernel_rfl)) (by decide) (fun K hK => ?_)
        refine goesP_ Tryd.func53 (by kernel_rfl) rfl #[.agg #[.pointer (some ⟨g, 0, none⟩)], .int .i64 ((64 - a - t : Nat) : Int)] (by rfl) rfl (by simp only [List.map_toArray, List.map_cons, List.map_nil]; rfl) [wrongE] ?_
        with_reducible refine (dget_bad w0 _ _ g b q ((64 - a - t : Nat) : Int) (64 - a - t) HCZ.out hb hq hgz HS10.out).mono ?_
        rintro e w11 ⟨rfl, hs11⟩
        refine ⟨rfl, ?_⟩
        have HS11 := Aside0.mk hs11
        clear hs11
        exact ⟨rfl, POut.bad HO.out rfl (drop3 HS11.out)⟩
end Go.Proofs.YtmnlbedgkjnodaaDoor.TdW
