/- The walk of the law BitsNumbers: any number is written, and any bytes are read as one, as the document says. -/
import Derived.Test.YtnhfkiiknmnjgaaRuW
import Derived.Test.YtnhfkiiknmnjgaaZigP
import Derived.Test.YtnhfkiiknmnjgaaQBx12
import Derived.Test.YtnhfkiiknmnjgaaQBx6
import Derived.Test.YtnhfkiiknmnjgaaQBx7
namespace Go.Proofs.Ytnhfkiiknmnjgaa.LwBitsNumbers
open Go.RowKit Go.Proofs.YtnhfkiiknmnjgaaW.PrintWords Go.Proofs.YtnhfkiiknmnjgaaW.PrintLast Go.Proofs.YtnhfkiiknmnjgaaW.PrintMore Go.Proofs.Ytnhfkiiknmnjgaa.QB Go.Proofs.Ytnhfkiiknmnjgaa.Uv Go.Proofs.Ytnhfkiiknmnjgaa.UvP Go.Proofs.Ytnhfkiiknmnjgaa.UvR Go.Proofs.Ytnhfkiiknmnjgaa.UvN Go.Proofs.Ytnhfkiiknmnjgaa.Sl Go.Proofs.Ytnhfkiiknmnjgaa.RuW Go.Proofs.Ytnhfkiiknmnjgaa.ZigP
set_option linter.unusedVariables false
set_option linter.unusedSimpArgs false

theorem ref_Zag_f (v : Int) (h0 : 0 ≤ v) (h1 : v < 18446744073709551616) : thermographref03_Zag.f v = some (zag v) := by
  unfold thermographref03_Zag.f zag
  rw [Int.tmod_eq_emod_of_nonneg h0, Int.tdiv_eq_ediv_of_nonneg h0]
  simp only [IntKind.wrap_u64, wrap64]
  split <;> (congr 1; omega)

def R8.T9 : Bool × List (List Nat × List Nat) := (true, [([], []), ([0], [0]), ([], []), ([], []), ([2, 3], [2, 3]), ([4], [4]), ([1, 5], [1, 5]), ([6, 4], [6]), ([7], [7]), ([7], [7]), ([8, 9, 7], [7, 8, 9]), ([7, 10], [7, 10]), ([11, 7], [11]), ([12], [12]), ([12], [12]), ([13, 14, 12], [12, 13, 14]), ([12, 15], [12, 15]), ([16, 12], [16]), ([17], [17]), ([17], [17]), ([19, 17], [17, 19]), ([18, 20, 17], [17, 18, 20]), ([21, 17], [17, 21]), ([22, 17], [17, 22]), ([17, 23], [17, 23]), ([24, 17], [24]), ([25], [25]), ([25], [25]), ([27, 25], [25, 27]), ([26, 28, 25], [25, 26, 28]), ([29, 25], [25, 29]), ([25], [25]), ([31, 25], [25, 31]), ([30, 32, 25], [25, 30, 32]), ([25, 33], [25, 33]), ([34, 25], [34]), ([35], [35]), ([36, 35, 35], [35, 36]), ([35], [35]), ([38, 37, 35], [35, 38]), ([37, 39, 35], [35, 37, 39]), ([35, 40], [35, 40]), ([41, 39], [41]), ([42], [42]), ([43, 42, 42], [42, 43]), ([42], [42]), ([45, 44, 42], [42, 45]), ([44, 46, 42], [42, 44, 46]), ([42, 47], [42, 47]), ([48, 46, 0, 1, 2, 3, 4, 5, 6, 7, 8, 9, 10, 11, 12, 13, 14, 15, 16, 17, 18, 19, 20, 21, 22, 23, 24, 25, 26, 27, 28, 29, 30, 31, 32, 33, 34, 35, 36, 37, 38, 39, 40, 41, 42, 43, 44, 45, 46, 47, 48], [48])])
def R8.B9 : List Nat := [0, 1, 0, 0, 12, 28, 63, 127, 255, 255, 1023, 2047, 4095, 8191, 8191, 32767, 65535, 131071, 262143, 262143, 786431, 2097151, 4194303, 8388607, 16777215, 33554431, 67108863, 67108863, 201326591, 536870911, 1073741823, 67108863, 2214592511, 8589934591, 17179869183, 34359738367, 68719476735, 137438953471, 68719476735, 549755813887, 1099511627775, 2199023255551, 4398046511103, 8796093022207, 17592186044415, 8796093022207, 70368744177663, 140737488355327, 281474976710655, 562949953421311]
theorem R8.tab9 : rtab .any (opsOf Try.f8 9) = R8.T9 := by kernel_rfl
theorem R8.bits9 : waitsOk R8.T9.2 R8.B9 = true := by kernel_rfl
set_option maxHeartbeats 16000000 in
set_option maxRecDepth 100000 in
theorem BitsNumbers_calls (W : World) (a0 : Option Addr) (cap0 : Nat) (l0 : List Int) (hc0 : l0.length ≤ cap0) (hr0 : Kd.C (Kd.int .u8) W a0 l0.length l0) (hw0 : ∀ x ∈ l0, (Lit.int .u8 x).wf = true) (hs0 : l0.length * 1 ≤ 140737488351232)
    (a1 : Int) (hw1 : (Lit.int .u64 a1).wf = true) (a2 : Int) (hw2 : (Lit.int .i64 a2).wf = true) :
    Calls Try.prog 8 #[.slice a0 l0.length cap0, .int .u64 a1, .int .i64 a2] W fun e w' => e = .returned (.bool true) ∧ Below W.heap.size W w' := by
  by_cases hbig : l0.length > 16384
  · have h1 : decide ((16384 : Int) < (l0.length : Int)) = true := by simp; omega
    have h2 : decide (16384 < l0.length) = true := by simp; omega
    clear hr0 hw0 hw1 hw2
    go_enter Try.func8, Try.ntmps8
    go_wp2
    go_ret
    exact ⟨rfl, Below.refl _ _⟩
  have h1 : decide ((16384 : Int) < (l0.length : Int)) = false := by simp; omega
  have h2 : decide (16384 < l0.length) = false := by simp; omega
  have hn : l0.length ≤ 16384 := by omega
  clear hbig
  have hby : Bytes l0 := fun x hx => by
    have h := hw0 x hx
    simp [Lit.wf, IntKind.min, IntKind.max, IntKind.signed, IntKind.bits] at h
    omega
  have h1r : 0 ≤ a1 ∧ a1 < 18446744073709551616 := by
    simp [Lit.wf, IntKind.min, IntKind.max, IntKind.signed, IntKind.bits] at hw1
    omega
  have h2r : -9223372036854775808 ≤ a2 ∧ a2 < 9223372036854775808 := by
    simp [Lit.wf, IntKind.min, IntKind.max, IntKind.signed, IntKind.bits] at hw2
    omega
  have z1 := bits_Zig_f a2 h2r.1 h2r.2
  have z2 := ref_Zig_f a2 h2r.1 h2r.2
  have z3 := bits_Zag_f a1 h1r.1 h1r.2
  have z4 := ref_Zag_f a1 h1r.1 h1r.2
  obtain ⟨v, hv⟩ : ∃ v : Nat, a1 = (v : Int) := ⟨a1.toNat, by omega⟩
  have hvl : v < 18446744073709551616 := by omega
  have u1 : bits_Uvarint.f 20 l0 a1 = some (l0 ++ uv v) := by rw [hv]; exact bits_Uvarint_f hvl (by omega) (by omega) (by omega)
  have u2 : thermographref03_Uvarint.f 20 l0 a1 = some (l0 ++ uv v) := by rw [hv]; exact ref_Uvarint_f hvl (by omega) (by omega) (by omega)
  obtain ⟨r1, r2, hr⟩ : ∃ r1 r2, ruv l0 = (r1, r2) := ⟨_, _, rfl⟩
  have u3 : bits_ReadUvarint.f 30 l0 = some (r1, r2) := by rw [bits_Read_f hby (by omega) (by omega), hr]
  obtain ⟨zg, hzg⟩ : ∃ z, zig a2 = z := ⟨_, rfl⟩
  obtain ⟨za, hza⟩ : ∃ z, zag a1 = z := ⟨_, rfl⟩
  rw [hzg] at z1 z2
  rw [hza] at z3 z4
  have Z1 := Aside0.mk z1
  have Z2 := Aside0.mk z2
  have Z3 := Aside0.mk z3
  have Z4 := Aside0.mk z4
  have U1 := Aside0.mk u1
  have U2 := Aside0.mk u2
  have U3 := Aside0.mk u3
  have HRV := Aside0.mk hr
  have HY := Aside0.mk hby
  have HR0 := Aside0.mk hr0
  have HS0 := Aside0.mk (Sat.start W)
  obtain ⟨Y, hYe⟩ : ∃ Y, l0 ++ uv v = Y := ⟨_, rfl⟩
  rw [hYe] at U1 U2
  clear hw0 hr0 hw1 hw2 hby h1r h2r z1 z2 z3 z4 u1 u2 u3 hr hzg hza hv hvl hYe
  have hal : (([] : List Int).length + l0.length) * 1 ≤ 140737488355328 := by simp; omega
  have hal2 : (l0.length + 1) * 1 ≤ 140737488355328 := by omega
  have hl40 : l0.length ≤ 1099511627776 := by omega
  have cutx : ∀ (A : Option Addr) (c : Nat), l0.length + 1 ≤ c → ∀ W : World, (Instr.slice 26 (.slice A (l0.length + 1) c) none (some (.int .i64 l0.length)) none).run Try.prog W = .ok (.slice A l0.length c) W := fun A c hc => by
    obtain ⟨i0, hi0, _, _, _⟩ := info_parts UvPinfo
    have h := cut_to (P := Try.prog) 26 5 .i64 Try.underlying26 hi0 A (l0.length + 1) c (l0.length : Int) (by omega) (by omega) hc
    rwa [Int.toNat_natCast] at h
  have CUT := Aside0.mk cutx
  clear cutx
  go_enter Try.func8, Try.ntmps8
  go_upto_region 6 with (first | (at_builtin; first | (refine Sat.appendInts rfl (.tmp 17) (.tmp 18) 26 5 .u8 1 rfl Try.underlying26 UvPinfo (by decide) _ [] l0 a0 l0.length cap0 rfl rfl (HS0.out.emptyRow (Kd.int .u8) 5) (Kd.C_alloc HR0.out _) hal ?_; intro v1 w1 hs1 _; rw [List.nil_append] at hs1; have HX := Aside0.mk hs1; clear hs1) | (refine Sat.appendInt rfl (.tmp 20) (.tmp 21) 26 5 .u8 1 rfl Try.underlying26 UvPinfo (by decide) _ l0 77 rfl rfl HX.out hal2 ?_; intro v2 w2 hs2 _; have HX2 := Aside0.mk hs2; clear hs2 HX)))
  obtain ⟨A1, c1, hv2, hc1, hC1⟩ := HX2.out.rowSlice
  have hlx : (l0 ++ [(77 : Int)]).length = l0.length + 1 := by simp
  rw [hlx] at hv2 hc1 hC1
  subst hv2
  have hCx : Kd.C (Kd.int .u8) w2 A1 l0.length l0 := by
    have h := Kd.C_take (m := l0.length) (show Kd.C (Kd.int .u8) w2 A1 (l0 ++ [(77 : Int)]).length (l0 ++ [(77 : Int)]) by rw [hlx]; exact hC1) (by rw [hlx]; omega)
    rwa [List.take_left' rfl] at h
  have HCX := Aside0.mk hCx
  have hcx := CUT.out A1 c1 hc1
  have hc1' : l0.length ≤ c1 := by omega
  clear hC1 hCx hlx
  go_wp2_with (first | (go_at_call 25; go_loud ((with_reducible refine (bits_Uvarint.calls 20 A1 c1 l0 a1 _ _ HCX.out hc1' U1.out).mono ?_); rintro e w3 ⟨v3, rfl, hr3, hb3⟩; have HS3 := Aside0.mk (HX2.out.made hb3 hr3); have HCX3 := Aside0.mk (Kd.C_below HCX.out hb3); clear hb3 hr3 HX2 HCX)) | (go_at_call 26; go_loud ((with_reducible refine (bits_ReadUvarint.calls 30 A1 c1 l0 r1 r2 _ HCX3.out hc1' U3.out).mono ?_); rintro e w4 ⟨rfl, ⟨⟨m, hm⟩⟩⟩; have HS4 := Aside0.mk (HS3.out.drewN m); rw [← hm] at HS4; clear hm HS3)) | (go_at_call 27; go_loud ((with_reducible refine (ref_Read_calls _ a0 cap0 l0 (Kd.C_below HR0.out HS4.out.below) hc0 HY.out hl40).mono ?_); rintro e w5 ⟨rfl, hb5⟩; rw [HRV.out]; have HS5 := Aside0.mk (HS4.out.step hb5); clear hb5 HS4)))
  have HD := Aside0.mk HS5.out.drew
  obtain ⟨gb, cap, he, _, _⟩ := (HD.out.nth 1 rfl).rowBlock (by simp)
  simp only [Value.slice.injEq] at he
  obtain ⟨rfl, hlx_, rfl⟩ := he
  clear hlx_
  have xf : ∀ (w : World) (L : List Asn), Sat W w (Row (Kd.int .u8) 5 (.slice (some ⟨gb, 0, none⟩) (l0.length + 1) c1) (l0 ++ [77]) :: L) →
      w.cell? ⟨gb, l0.length, none⟩ = some (.int .u8 77) ∧ (convert 26 9 (.slice (some ⟨gb, 0, none⟩) l0.length c1)).run Try.prog w = .ok (.string (strOfNums l0)) w := fun w L h => by
    have hlx : (l0 ++ [(77 : Int)]).length = l0.length + 1 := by simp
    constructor
    · have h1 := (show Sat W w (Row (Kd.int .u8) 5 (.slice (some ⟨gb, 0, none⟩) (l0 ++ [(77 : Int)]).length c1) (l0 ++ [77]) :: L) by rw [hlx]; exact h).rowCell l0.length (by rw [hlx]; omega)
      have e : (l0 ++ [(77 : Int)]).getD l0.length 0 = 77 := by rw [List.getD_eq_getElem?_getD, List.getElem?_append_right (Nat.le_refl _)]; simp
      rw [e] at h1
      exact h1.1
    · have h1 := Kd.C_take (m := l0.length) (Sat.rowC h) (by rw [hlx]; omega)
      rw [List.take_left' rfl] at h1
      exact Kd.C_string (P := Try.prog) (src := 26) (dst := 9) Try.underlying26 Try.underlying5 Try.underlying9 h1
  have SF : Aside0 (∀ w', Sat W w' (Row (Kd.int .u8) 5 v3 Y :: Row (Kd.int .u8) 5 (.slice (some ⟨gb, 0, none⟩) (l0.length + 1) c1) (l0 ++ [77]) :: []) → (fun w' => (convert 26 9 v3).run Try.prog w' = .ok (.string (strOfNums Y)) w' ∧ w'.cell? ⟨gb, l0.length, none⟩ = some (.int .u8 77) ∧ (convert 26 9 (.slice (some ⟨gb, 0, none⟩) l0.length c1)).run Try.prog w' = .ok (.string (strOfNums l0)) w' ∧ (convert 26 9 (.slice a0 l0.length cap0)).run Try.prog w' = .ok (.string (strOfNums l0)) w') w') := ⟨fun w' h => ⟨h.toString (P := Try.prog) (src := 26) (dst := 9) Try.underlying26 Try.underlying5 Try.underlying9, (xf w' _ (h.nth 1 rfl)).1, (xf w' _ (h.nth 1 rfl)).2, Kd.C_string (P := Try.prog) (src := 26) (dst := 9) (c := cap0) Try.underlying26 Try.underlying5 Try.underlying9 (Kd.C_below HR0.out h.below)⟩⟩
  have hk0 : (0 : Int) ≤ (l0.length : Int) := by omega
  have hk1 : (l0.length : Int) < ((l0.length + 1 : Nat) : Int) := by omega
  have hk2 : (l0.length : Int) < (l0.length : Int) + 1 := by omega
  have hk3 : l0.length < l0.length + 1 := by omega
  have hk4 : (l0.length : Int) ≤ (l0.length : Int) + 1 := by omega
  have hk5 : (l0.length : Int) ≤ (c1 : Int) := by omega
  clear xf HS5 HCX3
  refine start_ (n := 50) (S := fun w' => Sat W w' (Row (Kd.int .u8) 5 v3 Y :: Row (Kd.int .u8) 5 (.slice (some ⟨gb, 0, none⟩) (l0.length + 1) c1) (l0 ++ [77]) :: []) ∧ (convert 26 9 v3).run Try.prog w' = .ok (.string (strOfNums Y)) w' ∧ w'.cell? ⟨gb, l0.length, none⟩ = some (.int .u8 77) ∧ (convert 26 9 (.slice (some ⟨gb, 0, none⟩) l0.length c1)).run Try.prog w' = .ok (.string (strOfNums l0)) w' ∧ (convert 26 9 (.slice a0 l0.length cap0)).run Try.prog w' = .ok (.string (strOfNums l0)) w') (ds := []) #[false, false, false, false, false, false, false, false, false, false, false, false, false, false, false, false, false, false, false, false, false, false, false, false, false, false, false, false, false, false, false, false, false, false, false, false, false, false, false, false, false, false, false, false, false, false, false, false, false, false] (by kernel_rfl) rfl rfl ⟨HD.out, (SF.out _ HD.out).1, (SF.out _ HD.out).2.1, (SF.out _ HD.out).2.2.1, (SF.out _ HD.out).2.2.2⟩ (fun hHeld => ?_)
  refine with_tabW R8.tab9 R8.bits9 (fun HT_ HW_ => ?_)
  refine pure_ (i := 0) (N := some 42) (v := ?_) (a' := ?_) #[true, false, false, false, false, false, false, false, false, false, false, false, false, false, false, false, false, false, false, false, false, false, false, false, false, false, false, false, false, false, false, false, false, false, false, false, false, false, false, false, false, false, false, false, false, false, false, false, false, false] rfl rfl (any_of HT_.out (by kernel_rfl)) (fun _ _ _ h => h) (Or.inl ⟨by rfl, ?_⟩) ?_ ?_
  rotate_left
  · intro w'
    go_simp
    with_reducible rfl
  rotate_left
  · simp only [Act.put, List.setIfInBounds_toArray, List.set_cons_zero, List.set_cons_succ, i64_w, i32_w]
    rfl
  refine pure_ (i := 2) (N := some 44) (v := ?_) (a' := ?_) #[true, false, true, false, false, false, false, false, false, false, false, false, false, false, false, false, false, false, false, false, false, false, false, false, false, false, false, false, false, false, false, false, false, false, false, false, false, false, false, false, false, false, false, false, false, false, false, false, false, false] rfl rfl (any_of HT_.out (by kernel_rfl)) (fun _ _ _ h => h) (Or.inl ⟨by rfl, ?_⟩) ?_ ?_
  rotate_left
  · intro w'
    go_simp
    with_reducible rfl
  rotate_left
  · simp only [Act.put, List.setIfInBounds_toArray, List.set_cons_zero, List.set_cons_succ, i64_w, i32_w]
    rfl
  refine pure_ (i := 3) (N := some 45) (v := ?_) (a' := ?_) #[true, false, true, true, false, false, false, false, false, false, false, false, false, false, false, false, false, false, false, false, false, false, false, false, false, false, false, false, false, false, false, false, false, false, false, false, false, false, false, false, false, false, false, false, false, false, false, false, false, false] rfl rfl (any_of HT_.out (by kernel_rfl)) (fun _ _ _ h => h) (Or.inl ⟨by rfl, ?_⟩) ?_ ?_
  rotate_left
  · intro w'
    go_simp
    with_reducible rfl
  rotate_left
  · simp only [Act.put, List.setIfInBounds_toArray, List.set_cons_zero, List.set_cons_succ, i64_w, i32_w]
    rfl
  refine take_ (i := 1) (N := some 43) (v := ?_) (a' := ?_) #[true, true, true, true, false, false, false, false, false, false, false, false, false, false, false, false, false, false, false, false, false, false, false, false, false, false, false, false, false, false, false, false, false, false, false, false, false, false, false, false, false, false, false, false, false, false, false, false, false, false] rfl rfl (take_ofW HT_.out HW_.out (by kernel_rfl)) (fun _ _ _ h => h) (Or.inl ⟨by rfl, ?_⟩) hHeld ?_ ?_
  rotate_left
  · rintro w' ⟨s0, s1, s2, s3, s4⟩
    go_simp
    with_reducible rfl
  rotate_left
  · simp only [Act.put, List.setIfInBounds_toArray, List.set_cons_zero, List.set_cons_succ, i64_w, i32_w]
    rfl
  refine one_ (i := 4) (N := some 46) #[true, true, true, true, true, false, false, false, false, false, false, false, false, false, false, false, false, false, false, false, false, false, false, false, false, false, false, false, false, false, false, false, false, false, false, false, false, false, false, false, false, false, false, false, false, false, false, false, false, false] rfl rfl (one_of HT_.out (by kernel_rfl)) (by decide) (fun K hK => ?_)
  refine goes_ Try.func28 (by kernel_rfl) rfl #[.slice a0 l0.length cap0, .int .u64 a1] (by rfl) rfl rfl (by simp only [List.map_toArray, List.map_cons, List.map_nil]; rfl) ?_
  with_reducible refine (thermographref03_Uvarint.calls 20 a0 cap0 l0 a1 _ _ (Kd.C_below HR0.out HD.out.below) hc0 U2.out).mono ?_
  rintro e w6 ⟨v6, rfl, hr6, hb6⟩
  refine ⟨_, rfl, ?_⟩
  have hs6 := HD.out.made hb6 hr6
  have HK1 := Aside0.mk (hs6.toString (P := Try.prog) (src := 26) (dst := 9) Try.underlying26 Try.underlying5 Try.underlying9)
  have HS := Aside0.mk hs6.tail
  clear hs6 hr6 hb6
  refine hK.out _ _ ⟨HS.out, (SF.out _ HS.out).1, (SF.out _ HS.out).2.1, (SF.out _ HS.out).2.2.1, (SF.out _ HS.out).2.2.2⟩ (fun hHeld => ?_)
  clear hK K
  refine norm_ (a' := ?_) ?_ ?_
  rotate_left
  · show Act.put _ (some 46) _ = _
    simp only [Act.put, List.setIfInBounds_toArray, List.set_cons_zero, List.set_cons_succ, i64_w, i32_w]
    rfl
  refine one_ (i := 5) (N := some 47) #[true, true, true, true, true, true, false, false, false, false, false, false, false, false, false, false, false, false, false, false, false, false, false, false, false, false, false, false, false, false, false, false, false, false, false, false, false, false, false, false, false, false, false, false, false, false, false, false, false, false] rfl rfl (one_of HT_.out (by kernel_rfl)) (by decide) (fun K hK => ?_)
  have k1 := HK1.out
  refine value_ (w1 := ?_) (v := ?_) (by rfl) rfl ?_ ?_
  rotate_left 2
  · go_simp
    constructor
    · rfl
    · rfl
  clear k1
  refine hK.out _ _ ⟨HS.out, (SF.out _ HS.out).1, (SF.out _ HS.out).2.1, (SF.out _ HS.out).2.2.1, (SF.out _ HS.out).2.2.2⟩ (fun hHeld => ?_)
  clear hK K
  refine norm_ (a' := ?_) ?_ ?_
  rotate_left
  · show Act.put _ (some 47) _ = _
    simp only [Act.put, List.setIfInBounds_toArray, List.set_cons_zero, List.set_cons_succ, i64_w, i32_w]
    rfl
  refine pure_ (i := 6) (N := some 48) (v := ?_) (a' := ?_) #[true, true, true, true, true, true, true, false, false, false, false, false, false, false, false, false, false, false, false, false, false, false, false, false, false, false, false, false, false, false, false, false, false, false, false, false, false, false, false, false, false, false, false, false, false, false, false, false, false, false] rfl rfl (any_of HT_.out (by kernel_rfl)) (fun _ _ _ h => h) (Or.inl ⟨by rfl, ?_⟩) ?_ ?_
  rotate_left
  · intro w'
    go_simp
    with_reducible rfl
  rotate_left
  · simp only [Act.put, List.setIfInBounds_toArray, List.set_cons_zero, List.set_cons_succ, i64_w, i32_w]
    rfl
  refine pure_ (i := 7) (N := some 49) (v := ?_) (a' := ?_) #[true, true, true, true, true, true, true, true, false, false, false, false, false, false, false, false, false, false, false, false, false, false, false, false, false, false, false, false, false, false, false, false, false, false, false, false, false, false, false, false, false, false, false, false, false, false, false, false, false, false] rfl rfl (any_of HT_.out (by kernel_rfl)) (fun _ _ _ h => h) (Or.inl ⟨by rfl, ?_⟩) ?_ ?_
  rotate_left
  · intro w'
    go_simp
    with_reducible rfl
  rotate_left
  · simp only [Act.put, List.setIfInBounds_toArray, List.set_cons_zero, List.set_cons_succ, i64_w, i32_w]
    rfl
  refine pure_ (i := 8) (N := some 50) (v := ?_) (a' := ?_) #[true, true, true, true, true, true, true, true, true, false, false, false, false, false, false, false, false, false, false, false, false, false, false, false, false, false, false, false, false, false, false, false, false, false, false, false, false, false, false, false, false, false, false, false, false, false, false, false, false, false] rfl rfl (any_of HT_.out (by kernel_rfl)) (fun _ _ _ h => h) (Or.inl ⟨by rfl, ?_⟩) ?_ ?_
  rotate_left
  · intro w'
    go_simp
    with_reducible rfl
  rotate_left
  · simp only [Act.put, List.setIfInBounds_toArray, List.set_cons_zero, List.set_cons_succ, i64_w, i32_w]
    rfl
  refine pure_ (i := 9) (N := some 51) (v := ?_) (a' := ?_) #[true, true, true, true, true, true, true, true, true, true, false, false, false, false, false, false, false, false, false, false, false, false, false, false, false, false, false, false, false, false, false, false, false, false, false, false, false, false, false, false, false, false, false, false, false, false, false, false, false, false] rfl rfl (any_of HT_.out (by kernel_rfl)) (fun _ _ _ h => h) (Or.inl ⟨by rfl, ?_⟩) ?_ ?_
  rotate_left
  · intro w'
    go_simp
    with_reducible rfl
  rotate_left
  · simp only [Act.put, List.setIfInBounds_toArray, List.set_cons_zero, List.set_cons_succ, i64_w, i32_w]
    rfl
  refine pure_ (i := 10) (N := some 52) (v := ?_) (a' := ?_) #[true, true, true, true, true, true, true, true, true, true, true, false, false, false, false, false, false, false, false, false, false, false, false, false, false, false, false, false, false, false, false, false, false, false, false, false, false, false, false, false, false, false, false, false, false, false, false, false, false, false] rfl rfl (any_of HT_.out (by kernel_rfl)) (fun _ _ _ h => h) (Or.inl ⟨by rfl, ?_⟩) ?_ ?_
  rotate_left
  · intro w'
    go_simp
    with_reducible rfl
  rotate_left
  · simp only [Act.put, List.setIfInBounds_toArray, List.set_cons_zero, List.set_cons_succ, i64_w, i32_w]
    rfl
  refine pure_ (i := 11) (N := some 53) (v := ?_) (a' := ?_) #[true, true, true, true, true, true, true, true, true, true, true, true, false, false, false, false, false, false, false, false, false, false, false, false, false, false, false, false, false, false, false, false, false, false, false, false, false, false, false, false, false, false, false, false, false, false, false, false, false, false] rfl rfl (any_of HT_.out (by kernel_rfl)) (fun _ _ _ h => h) (Or.inl ⟨by rfl, ?_⟩) ?_ ?_
  rotate_left
  · intro w'
    go_simp
    with_reducible rfl
  rotate_left
  · simp only [Act.put, List.setIfInBounds_toArray, List.set_cons_zero, List.set_cons_succ, i64_w, i32_w]
    rfl
  refine pure_ (i := 12) (N := some 54) (v := ?_) (a' := ?_) #[true, true, true, true, true, true, true, true, true, true, true, true, true, false, false, false, false, false, false, false, false, false, false, false, false, false, false, false, false, false, false, false, false, false, false, false, false, false, false, false, false, false, false, false, false, false, false, false, false, false] rfl rfl (any_of HT_.out (by kernel_rfl)) (fun _ _ _ h => h) (Or.inl ⟨by rfl, ?_⟩) ?_ ?_
  rotate_left
  · intro w'
    go_simp
    with_reducible rfl
  rotate_left
  · simp only [Act.put, List.setIfInBounds_toArray, List.set_cons_zero, List.set_cons_succ, i64_w, i32_w]
    rfl
  refine pure_ (i := 13) (N := some 55) (v := ?_) (a' := ?_) #[true, true, true, true, true, true, true, true, true, true, true, true, true, true, false, false, false, false, false, false, false, false, false, false, false, false, false, false, false, false, false, false, false, false, false, false, false, false, false, false, false, false, false, false, false, false, false, false, false, false] rfl rfl (any_of HT_.out (by kernel_rfl)) (fun _ _ _ h => h) (Or.inl ⟨by rfl, ?_⟩) ?_ ?_
  rotate_left
  · intro w'
    go_simp
    with_reducible rfl
  rotate_left
  · simp only [Act.put, List.setIfInBounds_toArray, List.set_cons_zero, List.set_cons_succ, i64_w, i32_w]
    rfl
  refine pure_ (i := 14) (N := some 56) (v := ?_) (a' := ?_) #[true, true, true, true, true, true, true, true, true, true, true, true, true, true, true, false, false, false, false, false, false, false, false, false, false, false, false, false, false, false, false, false, false, false, false, false, false, false, false, false, false, false, false, false, false, false, false, false, false, false] rfl rfl (any_of HT_.out (by kernel_rfl)) (fun _ _ _ h => h) (Or.inl ⟨by rfl, ?_⟩) ?_ ?_
  rotate_left
  · intro w'
    go_simp
    with_reducible rfl
  rotate_left
  · simp only [Act.put, List.setIfInBounds_toArray, List.set_cons_zero, List.set_cons_succ, i64_w, i32_w]
    rfl
  refine pure_ (i := 15) (N := some 57) (v := ?_) (a' := ?_) #[true, true, true, true, true, true, true, true, true, true, true, true, true, true, true, true, false, false, false, false, false, false, false, false, false, false, false, false, false, false, false, false, false, false, false, false, false, false, false, false, false, false, false, false, false, false, false, false, false, false] rfl rfl (any_of HT_.out (by kernel_rfl)) (fun _ _ _ h => h) (Or.inl ⟨by rfl, ?_⟩) ?_ ?_
  rotate_left
  · intro w'
    go_simp
    with_reducible rfl
  rotate_left
  · simp only [Act.put, List.setIfInBounds_toArray, List.set_cons_zero, List.set_cons_succ, i64_w, i32_w]
    rfl
  refine pure_ (i := 16) (N := some 58) (v := ?_) (a' := ?_) #[true, true, true, true, true, true, true, true, true, true, true, true, true, true, true, true, true, false, false, false, false, false, false, false, false, false, false, false, false, false, false, false, false, false, false, false, false, false, false, false, false, false, false, false, false, false, false, false, false, false] rfl rfl (any_of HT_.out (by kernel_rfl)) (fun _ _ _ h => h) (Or.inl ⟨by rfl, ?_⟩) ?_ ?_
  rotate_left
  · intro w'
    go_simp
    with_reducible rfl
  rotate_left
  · simp only [Act.put, List.setIfInBounds_toArray, List.set_cons_zero, List.set_cons_succ, i64_w, i32_w]
    rfl
  refine pure_ (i := 17) (N := some 59) (v := ?_) (a' := ?_) #[true, true, true, true, true, true, true, true, true, true, true, true, true, true, true, true, true, true, false, false, false, false, false, false, false, false, false, false, false, false, false, false, false, false, false, false, false, false, false, false, false, false, false, false, false, false, false, false, false, false] rfl rfl (any_of HT_.out (by kernel_rfl)) (fun _ _ _ h => h) (Or.inl ⟨by rfl, ?_⟩) ?_ ?_
  rotate_left
  · intro w'
    go_simp
    with_reducible rfl
  rotate_left
  · simp only [Act.put, List.setIfInBounds_toArray, List.set_cons_zero, List.set_cons_succ, i64_w, i32_w]
    rfl
  refine pure_ (i := 18) (N := some 60) (v := ?_) (a' := ?_) #[true, true, true, true, true, true, true, true, true, true, true, true, true, true, true, true, true, true, true, false, false, false, false, false, false, false, false, false, false, false, false, false, false, false, false, false, false, false, false, false, false, false, false, false, false, false, false, false, false, false] rfl rfl (any_of HT_.out (by kernel_rfl)) (fun _ _ _ h => h) (Or.inl ⟨by rfl, ?_⟩) ?_ ?_
  rotate_left
  · intro w'
    go_simp
    with_reducible rfl
  rotate_left
  · simp only [Act.put, List.setIfInBounds_toArray, List.set_cons_zero, List.set_cons_succ, i64_w, i32_w]
    rfl
  refine pure_ (i := 19) (N := some 61) (v := ?_) (a' := ?_) #[true, true, true, true, true, true, true, true, true, true, true, true, true, true, true, true, true, true, true, true, false, false, false, false, false, false, false, false, false, false, false, false, false, false, false, false, false, false, false, false, false, false, false, false, false, false, false, false, false, false] rfl rfl (any_of HT_.out (by kernel_rfl)) (fun _ _ _ h => h) (Or.inl ⟨by rfl, ?_⟩) ?_ ?_
  rotate_left
  · intro w'
    go_simp
    with_reducible rfl
  rotate_left
  · simp only [Act.put, List.setIfInBounds_toArray, List.set_cons_zero, List.set_cons_succ, i64_w, i32_w]
    rfl
  refine pure_ (i := 20) (N := some 62) (v := ?_) (a' := ?_) #[true, true, true, true, true, true, true, true, true, true, true, true, true, true, true, true, true, true, true, true, true, false, false, false, false, false, false, false, false, false, false, false, false, false, false, false, false, false, false, false, false, false, false, false, false, false, false, false, false, false] rfl rfl (any_of HT_.out (by kernel_rfl)) (fun _ _ _ h => h) (Or.inl ⟨by rfl, ?_⟩) ?_ ?_
  rotate_left
  · intro w'
    go_simp
    with_reducible rfl
  rotate_left
  · simp only [Act.put, List.setIfInBounds_toArray, List.set_cons_zero, List.set_cons_succ, i64_w, i32_w]
    rfl
  refine pure_ (i := 21) (N := some 63) (v := ?_) (a' := ?_) #[true, true, true, true, true, true, true, true, true, true, true, true, true, true, true, true, true, true, true, true, true, true, false, false, false, false, false, false, false, false, false, false, false, false, false, false, false, false, false, false, false, false, false, false, false, false, false, false, false, false] rfl rfl (any_of HT_.out (by kernel_rfl)) (fun _ _ _ h => h) (Or.inl ⟨by rfl, ?_⟩) ?_ ?_
  rotate_left
  · intro w'
    go_simp
    with_reducible rfl
  rotate_left
  · simp only [Act.put, List.setIfInBounds_toArray, List.set_cons_zero, List.set_cons_succ, i64_w, i32_w]
    rfl
  refine take_ (i := 22) (N := some 64) (v := ?_) (a' := ?_) #[true, true, true, true, true, true, true, true, true, true, true, true, true, true, true, true, true, true, true, true, true, true, true, false, false, false, false, false, false, false, false, false, false, false, false, false, false, false, false, false, false, false, false, false, false, false, false, false, false, false] rfl rfl (take_ofW HT_.out HW_.out (by kernel_rfl)) (fun _ _ _ h => h) (Or.inl ⟨by rfl, ?_⟩) hHeld ?_ ?_
  rotate_left
  · rintro w' ⟨s0, s1, s2, s3, s4⟩
    go_simp
    with_reducible rfl
  rotate_left
  · simp only [Act.put, List.setIfInBounds_toArray, List.set_cons_zero, List.set_cons_succ, i64_w, i32_w]
    rfl
  refine pure_ (i := 23) (N := some 65) (v := ?_) (a' := ?_) #[true, true, true, true, true, true, true, true, true, true, true, true, true, true, true, true, true, true, true, true, true, true, true, true, false, false, false, false, false, false, false, false, false, false, false, false, false, false, false, false, false, false, false, false, false, false, false, false, false, false] rfl rfl (any_of HT_.out (by kernel_rfl)) (fun _ _ _ h => h) (Or.inl ⟨by rfl, ?_⟩) ?_ ?_
  rotate_left
  · intro w'
    go_simp
    with_reducible rfl
  rotate_left
  · simp only [Act.put, List.setIfInBounds_toArray, List.set_cons_zero, List.set_cons_succ, i64_w, i32_w]
    rfl
  refine pure_ (i := 24) (N := some 66) (v := ?_) (a' := ?_) #[true, true, true, true, true, true, true, true, true, true, true, true, true, true, true, true, true, true, true, true, true, true, true, true, true, false, false, false, false, false, false, false, false, false, false, false, false, false, false, false, false, false, false, false, false, false, false, false, false, false] rfl rfl (any_of HT_.out (by kernel_rfl)) (fun _ _ _ h => h) (Or.inl ⟨by rfl, ?_⟩) ?_ ?_
  rotate_left
  · intro w'
    go_simp
    with_reducible rfl
  rotate_left
  · simp only [Act.put, List.setIfInBounds_toArray, List.set_cons_zero, List.set_cons_succ, i64_w, i32_w]
    rfl
  refine pure_ (i := 25) (N := some 67) (v := ?_) (a' := ?_) #[true, true, true, true, true, true, true, true, true, true, true, true, true, true, true, true, true, true, true, true, true, true, true, true, true, true, false, false, false, false, false, false, false, false, false, false, false, false, false, false, false, false, false, false, false, false, false, false, false, false] rfl rfl (any_of HT_.out (by kernel_rfl)) (fun _ _ _ h => h) (Or.inl ⟨by rfl, ?_⟩) ?_ ?_
  rotate_left
  · intro w'
    go_simp
    with_reducible rfl
  rotate_left
  · simp only [Act.put, List.setIfInBounds_toArray, List.set_cons_zero, List.set_cons_succ, i64_w, i32_w]
    rfl
  refine pure_ (i := 26) (N := some 68) (v := ?_) (a' := ?_) #[true, true, true, true, true, true, true, true, true, true, true, true, true, true, true, true, true, true, true, true, true, true, true, true, true, true, true, false, false, false, false, false, false, false, false, false, false, false, false, false, false, false, false, false, false, false, false, false, false, false] rfl rfl (any_of HT_.out (by kernel_rfl)) (fun _ _ _ h => h) (Or.inl ⟨by rfl, ?_⟩) ?_ ?_
  rotate_left
  · intro w'
    go_simp
    with_reducible rfl
  rotate_left
  · simp only [Act.put, List.setIfInBounds_toArray, List.set_cons_zero, List.set_cons_succ, i64_w, i32_w]
    rfl
  refine pure_ (i := 27) (N := some 69) (v := ?_) (a' := ?_) #[true, true, true, true, true, true, true, true, true, true, true, true, true, true, true, true, true, true, true, true, true, true, true, true, true, true, true, true, false, false, false, false, false, false, false, false, false, false, false, false, false, false, false, false, false, false, false, false, false, false] rfl rfl (any_of HT_.out (by kernel_rfl)) (fun _ _ _ h => h) (Or.inl ⟨by rfl, ?_⟩) ?_ ?_
  rotate_left
  · intro w'
    go_simp
    with_reducible rfl
  rotate_left
  · simp only [Act.put, List.setIfInBounds_toArray, List.set_cons_zero, List.set_cons_succ, i64_w, i32_w]
    rfl
  refine pure_ (i := 28) (N := some 70) (v := ?_) (a' := ?_) #[true, true, true, true, true, true, true, true, true, true, true, true, true, true, true, true, true, true, true, true, true, true, true, true, true, true, true, true, true, false, false, false, false, false, false, false, false, false, false, false, false, false, false, false, false, false, false, false, false, false] rfl rfl (any_of HT_.out (by kernel_rfl)) (fun _ _ _ h => h) (Or.inl ⟨by rfl, ?_⟩) ?_ ?_
  rotate_left
  · intro w'
    go_simp
    with_reducible rfl
  rotate_left
  · simp only [Act.put, List.setIfInBounds_toArray, List.set_cons_zero, List.set_cons_succ, i64_w, i32_w]
    rfl
  refine pure_ (i := 29) (N := some 71) (v := ?_) (a' := ?_) #[true, true, true, true, true, true, true, true, true, true, true, true, true, true, true, true, true, true, true, true, true, true, true, true, true, true, true, true, true, true, false, false, false, false, false, false, false, false, false, false, false, false, false, false, false, false, false, false, false, false] rfl rfl (any_of HT_.out (by kernel_rfl)) (fun _ _ _ h => h) (Or.inl ⟨by rfl, ?_⟩) ?_ ?_
  rotate_left
  · intro w'
    go_simp
    with_reducible rfl
  rotate_left
  · simp only [Act.put, List.setIfInBounds_toArray, List.set_cons_zero, List.set_cons_succ, i64_w, i32_w]
    rfl
  refine pure_ (i := 31) (N := some 73) (v := ?_) (a' := ?_) #[true, true, true, true, true, true, true, true, true, true, true, true, true, true, true, true, true, true, true, true, true, true, true, true, true, true, true, true, true, true, false, true, false, false, false, false, false, false, false, false, false, false, false, false, false, false, false, false, false, false] rfl rfl (any_of HT_.out (by kernel_rfl)) (fun _ _ _ h => h) (Or.inl ⟨by rfl, ?_⟩) ?_ ?_
  rotate_left
  · intro w'
    go_simp
    with_reducible rfl
  rotate_left
  · simp only [Act.put, List.setIfInBounds_toArray, List.set_cons_zero, List.set_cons_succ, i64_w, i32_w]
    rfl
  refine take_ (i := 30) (N := some 72) (v := ?_) (a' := ?_) #[true, true, true, true, true, true, true, true, true, true, true, true, true, true, true, true, true, true, true, true, true, true, true, true, true, true, true, true, true, true, true, true, false, false, false, false, false, false, false, false, false, false, false, false, false, false, false, false, false, false] rfl rfl (take_ofW HT_.out HW_.out (by kernel_rfl)) (fun _ _ _ h => h) (Or.inl ⟨by rfl, ?_⟩) hHeld ?_ ?_
  rotate_left
  · rintro w' ⟨s0, s1, s2, s3, s4⟩
    go_simp
    with_reducible rfl
  rotate_left
  · simp only [Act.put, List.setIfInBounds_toArray, List.set_cons_zero, List.set_cons_succ, i64_w, i32_w]
    rfl
  refine take_ (i := 32) (N := some 74) (v := ?_) (a' := ?_) #[true, true, true, true, true, true, true, true, true, true, true, true, true, true, true, true, true, true, true, true, true, true, true, true, true, true, true, true, true, true, true, true, true, false, false, false, false, false, false, false, false, false, false, false, false, false, false, false, false, false] rfl rfl (take_ofW HT_.out HW_.out (by kernel_rfl)) (fun _ _ _ h => h) (Or.inl ⟨by rfl, ?_⟩) hHeld ?_ ?_
  rotate_left
  · rintro w' ⟨s0, s1, s2, s3, s4⟩
    go_simp
    with_reducible rfl
  rotate_left
  · simp only [Act.put, List.setIfInBounds_toArray, List.set_cons_zero, List.set_cons_succ, i64_w, i32_w]
    rfl
  refine pure_ (i := 33) (N := some 75) (v := ?_) (a' := ?_) #[true, true, true, true, true, true, true, true, true, true, true, true, true, true, true, true, true, true, true, true, true, true, true, true, true, true, true, true, true, true, true, true, true, true, false, false, false, false, false, false, false, false, false, false, false, false, false, false, false, false] rfl rfl (any_of HT_.out (by kernel_rfl)) (fun _ _ _ h => h) (Or.inl ⟨by rfl, ?_⟩) ?_ ?_
  rotate_left
  · intro w'
    go_simp
    with_reducible rfl
  rotate_left
  · simp only [Act.put, List.setIfInBounds_toArray, List.set_cons_zero, List.set_cons_succ, i64_w, i32_w]
    rfl
  refine pure_ (i := 34) (N := some 76) (v := ?_) (a' := ?_) #[true, true, true, true, true, true, true, true, true, true, true, true, true, true, true, true, true, true, true, true, true, true, true, true, true, true, true, true, true, true, true, true, true, true, true, false, false, false, false, false, false, false, false, false, false, false, false, false, false, false] rfl rfl (any_of HT_.out (by kernel_rfl)) (fun _ _ _ h => h) (Or.inl ⟨by rfl, ?_⟩) ?_ ?_
  rotate_left
  · intro w'
    go_simp
    with_reducible rfl
  rotate_left
  · simp only [Act.put, List.setIfInBounds_toArray, List.set_cons_zero, List.set_cons_succ, i64_w, i32_w]
    rfl
  refine pure_ (i := 35) (N := some 77) (v := ?_) (a' := ?_) #[true, true, true, true, true, true, true, true, true, true, true, true, true, true, true, true, true, true, true, true, true, true, true, true, true, true, true, true, true, true, true, true, true, true, true, true, false, false, false, false, false, false, false, false, false, false, false, false, false, false] rfl rfl (any_of HT_.out (by kernel_rfl)) (fun _ _ _ h => h) (Or.inl ⟨by rfl, ?_⟩) ?_ ?_
  rotate_left
  · intro w'
    go_simp
    with_reducible rfl
  rotate_left
  · simp only [Act.put, List.setIfInBounds_toArray, List.set_cons_zero, List.set_cons_succ, i64_w, i32_w]
    rfl
  refine pure_ (i := 36) (N := some 78) (v := ?_) (a' := ?_) #[true, true, true, true, true, true, true, true, true, true, true, true, true, true, true, true, true, true, true, true, true, true, true, true, true, true, true, true, true, true, true, true, true, true, true, true, true, false, false, false, false, false, false, false, false, false, false, false, false, false] rfl rfl (any_of HT_.out (by kernel_rfl)) (fun _ _ _ h => h) (Or.inl ⟨by rfl, ?_⟩) ?_ ?_
  rotate_left
  · intro w'
    go_simp
    with_reducible rfl
  rotate_left
  · simp only [Act.put, List.setIfInBounds_toArray, List.set_cons_zero, List.set_cons_succ, i64_w, i32_w]
    rfl
  refine pure_ (i := 38) (N := some 80) (v := ?_) (a' := ?_) #[true, true, true, true, true, true, true, true, true, true, true, true, true, true, true, true, true, true, true, true, true, true, true, true, true, true, true, true, true, true, true, true, true, true, true, true, true, false, true, false, false, false, false, false, false, false, false, false, false, false] rfl rfl (any_of HT_.out (by kernel_rfl)) (fun _ _ _ h => h) (Or.inl ⟨by rfl, ?_⟩) ?_ ?_
  rotate_left
  · intro w'
    go_simp
    with_reducible rfl
  rotate_left
  · simp only [Act.put, List.setIfInBounds_toArray, List.set_cons_zero, List.set_cons_succ, i64_w, i32_w]
    rfl
  refine one_ (i := 37) (N := some 79) #[true, true, true, true, true, true, true, true, true, true, true, true, true, true, true, true, true, true, true, true, true, true, true, true, true, true, true, true, true, true, true, true, true, true, true, true, true, true, true, false, false, false, false, false, false, false, false, false, false, false] rfl rfl (one_of HT_.out (by kernel_rfl)) (by decide) (fun K hK => ?_)
  refine goes_ Try.func11 (by kernel_rfl) rfl #[.int .i64 a2] (by rfl) rfl rfl (by simp only [List.map_toArray, List.map_cons, List.map_nil]; rfl) ?_
  with_reducible refine (bits_Zig.calls a2 zg _ Z1.out).mono ?_
  rintro e w7 ⟨rfl, ⟨⟨m, hm⟩⟩⟩
  refine ⟨_, rfl, ?_⟩
  have HSn := Aside0.mk (HS.out.drewN m)
  rw [← hm] at HSn
  clear hm
  have HS := HSn
  refine hK.out _ _ ⟨HS.out, (SF.out _ HS.out).1, (SF.out _ HS.out).2.1, (SF.out _ HS.out).2.2.1, (SF.out _ HS.out).2.2.2⟩ (fun hHeld => ?_)
  clear hK K
  refine norm_ (a' := ?_) ?_ ?_
  rotate_left
  · show Act.put _ (some 79) _ = _
    simp only [Act.put, List.setIfInBounds_toArray, List.set_cons_zero, List.set_cons_succ, i64_w, i32_w]
    rfl
  refine one_ (i := 39) (N := some 81) #[true, true, true, true, true, true, true, true, true, true, true, true, true, true, true, true, true, true, true, true, true, true, true, true, true, true, true, true, true, true, true, true, true, true, true, true, true, true, true, true, false, false, false, false, false, false, false, false, false, false] rfl rfl (one_of HT_.out (by kernel_rfl)) (by decide) (fun K hK => ?_)
  refine goes_ Try.func13 (by kernel_rfl) rfl #[.int .i64 a2] (by rfl) rfl rfl (by simp only [List.map_toArray, List.map_cons, List.map_nil]; rfl) ?_
  with_reducible refine (thermographref03_Zig.calls a2 zg _ Z2.out).mono ?_
  rintro e w7 ⟨rfl, ⟨⟨m, hm⟩⟩⟩
  refine ⟨_, rfl, ?_⟩
  have HSn := Aside0.mk (HS.out.drewN m)
  rw [← hm] at HSn
  clear hm
  have HS := HSn
  refine hK.out _ _ ⟨HS.out, (SF.out _ HS.out).1, (SF.out _ HS.out).2.1, (SF.out _ HS.out).2.2.1, (SF.out _ HS.out).2.2.2⟩ (fun hHeld => ?_)
  clear hK K
  refine norm_ (a' := ?_) ?_ ?_
  rotate_left
  · show Act.put _ (some 81) _ = _
    simp only [Act.put, List.setIfInBounds_toArray, List.set_cons_zero, List.set_cons_succ, i64_w, i32_w]
    rfl
  refine pure_ (i := 40) (N := some 82) (v := ?_) (a' := ?_) #[true, true, true, true, true, true, true, true, true, true, true, true, true, true, true, true, true, true, true, true, true, true, true, true, true, true, true, true, true, true, true, true, true, true, true, true, true, true, true, true, true, false, false, false, false, false, false, false, false, false] rfl rfl (any_of HT_.out (by kernel_rfl)) (fun _ _ _ h => h) (Or.inl ⟨by rfl, ?_⟩) ?_ ?_
  rotate_left
  · intro w'
    go_simp
    with_reducible rfl
  rotate_left
  · simp only [Act.put, List.setIfInBounds_toArray, List.set_cons_zero, List.set_cons_succ, i64_w, i32_w]
    rfl
  refine pure_ (i := 41) (N := some 83) (v := ?_) (a' := ?_) #[true, true, true, true, true, true, true, true, true, true, true, true, true, true, true, true, true, true, true, true, true, true, true, true, true, true, true, true, true, true, true, true, true, true, true, true, true, true, true, true, true, true, false, false, false, false, false, false, false, false] rfl rfl (any_of HT_.out (by kernel_rfl)) (fun _ _ _ h => h) (Or.inl ⟨by rfl, ?_⟩) ?_ ?_
  rotate_left
  · intro w'
    go_simp
    with_reducible rfl
  rotate_left
  · simp only [Act.put, List.setIfInBounds_toArray, List.set_cons_zero, List.set_cons_succ, i64_w, i32_w]
    rfl
  refine pure_ (i := 42) (N := some 84) (v := ?_) (a' := ?_) #[true, true, true, true, true, true, true, true, true, true, true, true, true, true, true, true, true, true, true, true, true, true, true, true, true, true, true, true, true, true, true, true, true, true, true, true, true, true, true, true, true, true, true, false, false, false, false, false, false, false] rfl rfl (any_of HT_.out (by kernel_rfl)) (fun _ _ _ h => h) (Or.inl ⟨by rfl, ?_⟩) ?_ ?_
  rotate_left
  · intro w'
    go_simp
    with_reducible rfl
  rotate_left
  · simp only [Act.put, List.setIfInBounds_toArray, List.set_cons_zero, List.set_cons_succ, i64_w, i32_w]
    rfl
  refine pure_ (i := 43) (N := some 85) (v := ?_) (a' := ?_) #[true, true, true, true, true, true, true, true, true, true, true, true, true, true, true, true, true, true, true, true, true, true, true, true, true, true, true, true, true, true, true, true, true, true, true, true, true, true, true, true, true, true, true, true, false, false, false, false, false, false] rfl rfl (any_of HT_.out (by kernel_rfl)) (fun _ _ _ h => h) (Or.inl ⟨by rfl, ?_⟩) ?_ ?_
  rotate_left
  · intro w'
    go_simp
    with_reducible rfl
  rotate_left
  · simp only [Act.put, List.setIfInBounds_toArray, List.set_cons_zero, List.set_cons_succ, i64_w, i32_w]
    rfl
  refine pure_ (i := 45) (N := some 87) (v := ?_) (a' := ?_) #[true, true, true, true, true, true, true, true, true, true, true, true, true, true, true, true, true, true, true, true, true, true, true, true, true, true, true, true, true, true, true, true, true, true, true, true, true, true, true, true, true, true, true, true, false, true, false, false, false, false] rfl rfl (any_of HT_.out (by kernel_rfl)) (fun _ _ _ h => h) (Or.inl ⟨by rfl, ?_⟩) ?_ ?_
  rotate_left
  · intro w'
    go_simp
    with_reducible rfl
  rotate_left
  · simp only [Act.put, List.setIfInBounds_toArray, List.set_cons_zero, List.set_cons_succ, i64_w, i32_w]
    rfl
  refine one_ (i := 44) (N := some 86) #[true, true, true, true, true, true, true, true, true, true, true, true, true, true, true, true, true, true, true, true, true, true, true, true, true, true, true, true, true, true, true, true, true, true, true, true, true, true, true, true, true, true, true, true, true, true, false, false, false, false] rfl rfl (one_of HT_.out (by kernel_rfl)) (by decide) (fun K hK => ?_)
  refine goes_ Try.func12 (by kernel_rfl) rfl #[.int .u64 a1] (by rfl) rfl rfl (by simp only [List.map_toArray, List.map_cons, List.map_nil]; rfl) ?_
  with_reducible refine (bits_Zag.calls a1 za _ Z3.out).mono ?_
  rintro e w7 ⟨rfl, ⟨⟨m, hm⟩⟩⟩
  refine ⟨_, rfl, ?_⟩
  have HSn := Aside0.mk (HS.out.drewN m)
  rw [← hm] at HSn
  clear hm
  have HS := HSn
  refine hK.out _ _ ⟨HS.out, (SF.out _ HS.out).1, (SF.out _ HS.out).2.1, (SF.out _ HS.out).2.2.1, (SF.out _ HS.out).2.2.2⟩ (fun hHeld => ?_)
  clear hK K
  refine norm_ (a' := ?_) ?_ ?_
  rotate_left
  · show Act.put _ (some 86) _ = _
    simp only [Act.put, List.setIfInBounds_toArray, List.set_cons_zero, List.set_cons_succ, i64_w, i32_w]
    rfl
  refine one_ (i := 46) (N := some 88) #[true, true, true, true, true, true, true, true, true, true, true, true, true, true, true, true, true, true, true, true, true, true, true, true, true, true, true, true, true, true, true, true, true, true, true, true, true, true, true, true, true, true, true, true, true, true, true, false, false, false] rfl rfl (one_of HT_.out (by kernel_rfl)) (by decide) (fun K hK => ?_)
  refine goes_ Try.func29 (by kernel_rfl) rfl #[.int .u64 a1] (by rfl) rfl rfl (by simp only [List.map_toArray, List.map_cons, List.map_nil]; rfl) ?_
  with_reducible refine (thermographref03_Zag.calls a1 za _ Z4.out).mono ?_
  rintro e w7 ⟨rfl, ⟨⟨m, hm⟩⟩⟩
  refine ⟨_, rfl, ?_⟩
  have HSn := Aside0.mk (HS.out.drewN m)
  rw [← hm] at HSn
  clear hm
  have HS := HSn
  refine hK.out _ _ ⟨HS.out, (SF.out _ HS.out).1, (SF.out _ HS.out).2.1, (SF.out _ HS.out).2.2.1, (SF.out _ HS.out).2.2.2⟩ (fun hHeld => ?_)
  clear hK K
  refine norm_ (a' := ?_) ?_ ?_
  rotate_left
  · show Act.put _ (some 88) _ = _
    simp only [Act.put, List.setIfInBounds_toArray, List.set_cons_zero, List.set_cons_succ, i64_w, i32_w]
    rfl
  refine pure_ (i := 47) (N := some 89) (v := ?_) (a' := ?_) #[true, true, true, true, true, true, true, true, true, true, true, true, true, true, true, true, true, true, true, true, true, true, true, true, true, true, true, true, true, true, true, true, true, true, true, true, true, true, true, true, true, true, true, true, true, true, true, true, false, false] rfl rfl (any_of HT_.out (by kernel_rfl)) (fun _ _ _ h => h) (Or.inl ⟨by rfl, ?_⟩) ?_ ?_
  rotate_left
  · intro w'
    go_simp
    with_reducible rfl
  rotate_left
  · simp only [Act.put, List.setIfInBounds_toArray, List.set_cons_zero, List.set_cons_succ, i64_w, i32_w]
    rfl
  refine pure_ (i := 48) (N := some 90) (v := ?_) (a' := ?_) #[true, true, true, true, true, true, true, true, true, true, true, true, true, true, true, true, true, true, true, true, true, true, true, true, true, true, true, true, true, true, true, true, true, true, true, true, true, true, true, true, true, true, true, true, true, true, true, true, true, false] rfl rfl (any_of HT_.out (by kernel_rfl)) (fun _ _ _ h => h) (Or.inl ⟨by rfl, ?_⟩) ?_ ?_
  rotate_left
  · intro w'
    go_simp
    with_reducible rfl
  rotate_left
  · simp only [Act.put, List.setIfInBounds_toArray, List.set_cons_zero, List.set_cons_succ, i64_w, i32_w]
    rfl
  refine pure_ (i := 49) (N := some 6) (v := ?_) (a' := ?_) #[true, true, true, true, true, true, true, true, true, true, true, true, true, true, true, true, true, true, true, true, true, true, true, true, true, true, true, true, true, true, true, true, true, true, true, true, true, true, true, true, true, true, true, true, true, true, true, true, true, true] rfl rfl (any_of HT_.out (by kernel_rfl)) (fun _ _ _ h => h) (Or.inl ⟨by rfl, ?_⟩) ?_ ?_
  rotate_left
  · intro w'
    go_simp
    with_reducible rfl
  rotate_left
  · simp only [Act.put, List.setIfInBounds_toArray, List.set_cons_zero, List.set_cons_succ, i64_w, i32_w]
    rfl
  refine done_ (done_of HT_.out (by kernel_rfl)) ?_
  go_wp2
  go_ret
  exact ⟨rfl, HS.out.below⟩
end Go.Proofs.Ytnhfkiiknmnjgaa.LwBitsNumbers
