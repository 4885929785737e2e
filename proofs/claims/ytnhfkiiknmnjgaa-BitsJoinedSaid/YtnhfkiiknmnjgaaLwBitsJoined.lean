/- The walk of the law BitsJoined: bits put by one writer and then by another one are, put by one, the bits of both. -/
import Derived.Test.YtnhfkiiknmnjgaaWrW
import Derived.Test.YtnhfkiiknmnjgaaRdW
import Derived.Test.YtnhfkiiknmnjgaaSl2
import Derived.Test.YtnhfkiiknmnjgaaAllB
namespace Go.Proofs.Ytnhfkiiknmnjgaa.LwBitsJoined
open Go.RowKit Go.Proofs.YtnhfkiiknmnjgaaW.PrintWords Go.Proofs.YtnhfkiiknmnjgaaW.PrintLast Go.Proofs.YtnhfkiiknmnjgaaW.PrintMore Go.Proofs.Ytnhfkiiknmnjgaa.QB Go.Proofs.Ytnhfkiiknmnjgaa.Sl Go.Proofs.Ytnhfkiiknmnjgaa.Bt Go.Proofs.Ytnhfkiiknmnjgaa.WrW Go.Proofs.Ytnhfkiiknmnjgaa.RdW Go.Proofs.Ytnhfkiiknmnjgaa.BtR Go.Proofs.Ytnhfkiiknmnjgaa.Ty3 Go.Proofs.Ytnhfkiiknmnjgaa.AllB
attribute [local go_sem] max2_int min2_int max_two min_two
set_option linter.unusedVariables false
set_option linter.unusedSimpArgs false

/-- One bit that is read. -/
theorem getN_one {l : List Int} (hb : IsBits l) {i : Nat} (h : i < l.length) : getN (pk l) i (cutN 1) = (l.getD i 0).toNat := by
  have e : getN (pk l) i 1 = (l.getD i 0).toNat := by
    unfold getN
    rw [unpk_pk hb]
    generalize List.replicate (8 * ((l.length + 7) / 8) - l.length) (0 : Int) = z
    have hd : (l ++ z).drop i = l[i] :: (l ++ z).drop (i + 1) := by
      rw [List.drop_eq_getElem_cons (by rw [List.length_append]; omega), List.getElem_append_left h]
    rw [hd, List.take_succ_cons, List.take_zero, num_cons, num_nil, List.getD_eq_getElem?_getD, List.getElem?_eq_getElem h]
    simp
  exact e

set_option maxHeartbeats 8000000 in
set_option maxRecDepth 100000 in
theorem BitsJoined_calls (W : World) (a0 : Option Addr) (cap0 : Nat) (l0 : List S43) (hc0 : l0.length ≤ cap0) (hr0 : Kd.C k43 W a0 l0.length l0) (hw0 : ∀ x ∈ l0, okStep x) (hs0 : l0.length * 16 ≤ 140737488351232)
    (a1 : Option Addr) (cap1 : Nat) (l1 : List S43) (hc1 : l1.length ≤ cap1) (hr1 : Kd.C k43 W a1 l1.length l1) (hw1 : ∀ x ∈ l1, okStep x) (hs1 : l1.length * 16 ≤ 140737488351232) :
    Calls Try.prog 9 #[.slice a0 l0.length cap0, .slice a1 l1.length cap1] W fun e w' => e = .returned (.bool true) ∧ Below W.heap.size W w' := by
  by_cases hbig0 : l0.length > 1024
  · have h1 : decide ((1024 : Int) < (l0.length : Int)) = true := by simp; omega
    have h2 : decide (1024 < l0.length) = true := by simp; omega
    clear hr0 hw0 hr1 hw1
    go_enter Try.func9, Try.ntmps9
    go_wp2
    go_ret
    exact ⟨rfl, Below.refl _ _⟩
  have hH01 : decide ((1024 : Int) < (l0.length : Int)) = false := by simp; omega
  have hH02 : decide (1024 < l0.length) = false := by simp; omega
  by_cases hbig1 : l1.length > 1024
  · have h1 : decide ((1024 : Int) < (l1.length : Int)) = true := by simp; omega
    have h2 : decide (1024 < l1.length) = true := by simp; omega
    clear hr0 hw0 hr1 hw1
    go_enter Try.func9, Try.ntmps9
    go_wp2
    go_ret
    exact ⟨rfl, Below.refl _ _⟩
  have hH11 : decide ((1024 : Int) < (l1.length : Int)) = false := by simp; omega
  have hH12 : decide (1024 < l1.length) = false := by simp; omega
  have hn0 : l0.length ≤ 1024 := by omega
  have hn1 : l1.length ≤ 1024 := by omega
  clear hbig0 hbig1
  have hal0 := allBits_length l0
  have hal1 := allBits_length l1
  have hX : (allBits l0).length ≤ 65536 := by omega
  have hY : (allBits l1).length ≤ 65536 := by omega
  clear hal0 hal1
  have HW0 := Aside0.mk hw0
  have HR0 := Aside0.mk hr0
  have HW1 := Aside0.mk hw1
  have HR1 := Aside0.mk hr1
  have HS := Aside0.mk (Sat.start W)
  clear hw0 hr0 hw1 hr1
  go_enter Try.func9, Try.ntmps9
  go_upto_region 4 with (first | (go_at_call 19; go_loud ((with_reducible refine (NewWriter_calls W _ _ HS.out).mono ?_); rintro e w1 ⟨gx, rfl, hs⟩; have HS1 := Aside0.mk hs; clear hs)))
  go_upto_region 5 with (first | (go_at_call 19; go_loud ((with_reducible refine (NewWriter_calls W _ _ HS1.out).mono ?_); rintro e w2 ⟨gy, rfl, hs⟩; have HS2 := Aside0.mk hs; clear hs)))
  go_wp2_with (first | (go_at_call 19; go_loud ((with_reducible refine (NewWriter_calls W _ _ HS2.out).mono ?_); rintro e w3 ⟨gz, rfl, hs⟩; have HS3 := Aside0.mk (show Sat W w3 (Wr gx [] :: Wr gz [] :: Wr gy [] :: []) from hs.nth 2 rfl); clear hs)))
  clear HS HS1 HS2
  go_loopw [8] (fun v8 wr => ∃ (k : Nat), k ≤ l0.length ∧ v8 = .int .i64 k ∧ Aside0 (Sat W wr (Wr gx (allBits (l0.take k)) :: Wr gz (allBits (l0.take k)) :: Wr gy [] :: []))) (fun v8 _ => l0.length - (intOf v8).toNat)
  case atStart => exact ⟨0, Nat.zero_le _, rfl, HS3⟩
  case round =>
    obtain ⟨k, hk, rfl, HL⟩ := hrel
    clear HS3
    by_cases hlt : k < l0.length
    · have hlti : decide ((k : Int) < (l0.length : Int)) = true := by simp; omega
      have hltn : decide (k < l0.length) = true := by simp; omega
      have hbl := allBits_length (l0.take k)
      rw [List.length_take, Nat.min_eq_left hk] at hbl
      have hb3 : (allBits (l0.take k)).length ≤ 1099511627776 := by omega
      have hb4 : (allBits (l0.take k)).length ≤ 1099511627776 := by omega
      obtain ⟨ad, vn, nn, rfl, hst, hvl, _, hXX⟩ := step_at HR0.out HW0.out hlt
      have HST := Aside0.mk (allBits_succ hlt hst)
      have HX := Aside0.mk hXX
      obtain ⟨hx0, hx1⟩ := hXX wr HL.out.below
      have HD := Aside0.mk HL.out.drew
      have hk0 : (0 : Int) ≤ (k : Int) := by omega
      have hk1 : (k : Int) < (l0.length : Int) := by omega
      clear hst hXX HL hbl
      go_wp2_with fail
      go_still_tail 11, (by kernel_rfl)
      change wpList _ _ _ _ _ wr.drew
      generalize wr.drew = wd at HD ⊢
      go_wp2_with (first | (go_at_call 20; go_loud ((with_reducible refine (Put_calls W wd _ gx (allBits (l0.take k)) vn nn hvl hb3 (allBits_isBits _) HD.out).mono ?_); rintro e w4 ⟨rfl, hs⟩; rw [← HST.out] at hs; have HP := Aside0.mk hs; obtain ⟨hx0b, hx1b⟩ := HX.out w4 hs.below; clear hs)))
      clear hx0 hx1
      have HQ := Aside0.mk (show Sat W w4.drew (Wr gz (allBits (l0.take k)) :: Wr gx (allBits (l0.take (k + 1))) :: Wr gy [] :: []) from HP.out.drew.nth 1 rfl)
      clear HP
      go_still_tail 11, (by kernel_rfl)
      change wpList _ _ _ _ _ w4.drew
      generalize w4.drew = we at HQ ⊢
      go_wp2_with (first | (go_at_call 20; go_loud ((with_reducible refine (Put_calls W we _ gz (allBits (l0.take k)) vn nn hvl hb4 (allBits_isBits _) HQ.out).mono ?_); rintro e w5 ⟨rfl, hs⟩; rw [← HST.out] at hs; have HP := Aside0.mk (show Sat W w5 (Wr gx (allBits (l0.take (k + 1))) :: Wr gz (allBits (l0.take (k + 1))) :: Wr gy [] :: []) from hs.nth 1 rfl); clear hs)))
      go_roundw
      case measure => simp [intOf]; omega
      case rel => exact ⟨k + 1, by omega, by go_num, HP⟩
    · have hlti : decide ((k : Int) < (l0.length : Int)) = false := by simp; omega
      have hltn : decide (k < l0.length) = false := by simp; omega
      rw [List.take_of_length_le (by omega)] at HL
      clear hk hlt
      have HS4 := Aside0.mk (show Sat W wr (Wr gy [] :: Wr gz (allBits l0) :: Wr gx (allBits l0) :: []) from (HL.out.nth 1 rfl).nth 2 rfl)
      clear HL
      go_wp2
      have HS5 := Aside0.mk (show Sat W wr (Wr gy (allBits (l1.take 0)) :: Wr gz (allBits l0 ++ allBits (l1.take 0)) :: Wr gx (allBits l0) :: []) from by have h := HS4.out; rw [List.take_zero, show allBits ([] : List S43) = [] from rfl, List.append_nil]; exact h)
      go_loopw [9] (fun v9 wr => ∃ (k : Nat), k ≤ l1.length ∧ v9 = .int .i64 k ∧ Aside0 (Sat W wr (Wr gy (allBits (l1.take k)) :: Wr gz (allBits l0 ++ (allBits (l1.take k))) :: Wr gx (allBits l0) :: []))) (fun v9 _ => l1.length - (intOf v9).toNat)
      case atStart => exact ⟨0, Nat.zero_le _, rfl, HS5⟩
      case round =>
        obtain ⟨k, hk, rfl, HL⟩ := hrel
        clear HS4 HS5
        by_cases hlt : k < l1.length
        · have hlti : decide ((k : Int) < (l1.length : Int)) = true := by simp; omega
          have hltn : decide (k < l1.length) = true := by simp; omega
          have hbl := allBits_length (l1.take k)
          rw [List.length_take, Nat.min_eq_left hk] at hbl
          have hb3 : (allBits (l1.take k)).length ≤ 1099511627776 := by omega
          have hb4 : (allBits l0 ++ (allBits (l1.take k))).length ≤ 1099511627776 := by rw [List.length_append]; omega
          obtain ⟨ad, vn, nn, rfl, hst, hvl, _, hXX⟩ := step_at HR1.out HW1.out hlt
          have HST := Aside0.mk (allBits_succ hlt hst)
          have HX := Aside0.mk hXX
          obtain ⟨hx0, hx1⟩ := hXX wr HL.out.below
          have HD := Aside0.mk HL.out.drew
          have hk0 : (0 : Int) ≤ (k : Int) := by omega
          have hk1 : (k : Int) < (l1.length : Int) := by omega
          clear hst hXX HL hbl
          go_wp2_with fail
          go_still_tail 11, (by kernel_rfl)
          change wpList _ _ _ _ _ wr.drew
          generalize wr.drew = wd at HD ⊢
          go_wp2_with (first | (go_at_call 20; go_loud ((with_reducible refine (Put_calls W wd _ gy (allBits (l1.take k)) vn nn hvl hb3 (allBits_isBits _) HD.out).mono ?_); rintro e w4 ⟨rfl, hs⟩; rw [← HST.out] at hs; have HP := Aside0.mk hs; obtain ⟨hx0b, hx1b⟩ := HX.out w4 hs.below; clear hs)))
          clear hx0 hx1
          have HQ := Aside0.mk (show Sat W w4.drew (Wr gz (allBits l0 ++ (allBits (l1.take k))) :: Wr gy (allBits (l1.take (k + 1))) :: Wr gx (allBits l0) :: []) from HP.out.drew.nth 1 rfl)
          clear HP
          go_still_tail 11, (by kernel_rfl)
          change wpList _ _ _ _ _ w4.drew
          generalize w4.drew = we at HQ ⊢
          go_wp2_with (first | (go_at_call 20; go_loud ((with_reducible refine (Put_calls W we _ gz (allBits l0 ++ (allBits (l1.take k))) vn nn hvl hb4 ((allBits_isBits _).append (allBits_isBits _)) HQ.out).mono ?_); rintro e w5 ⟨rfl, hs⟩; rw [List.append_assoc, ← HST.out] at hs; have HP := Aside0.mk (show Sat W w5 (Wr gy (allBits (l1.take (k + 1))) :: Wr gz (allBits l0 ++ (allBits (l1.take (k + 1)))) :: Wr gx (allBits l0) :: []) from hs.nth 1 rfl); clear hs)))
          go_roundw
          case measure => simp [intOf]; omega
          case rel => exact ⟨k + 1, by omega, by go_num, HP⟩
        · have hlti : decide ((k : Int) < (l1.length : Int)) = false := by simp; omega
          have hltn : decide (k < l1.length) = false := by simp; omega
          rw [List.take_of_length_le (by omega)] at HL
          clear hk hlt
          have hXb := allBits_isBits l0
          have hYb := allBits_isBits l1
          have hZb := hXb.append hYb
          have hZl : (allBits l0 ++ allBits l1).length = (allBits l0).length + (allBits l1).length := List.length_append
          obtain ⟨X, hXe⟩ : ∃ X, allBits l0 = X := ⟨_, rfl⟩
          obtain ⟨Y, hYe⟩ : ∃ Y, allBits l1 = Y := ⟨_, rfl⟩
          rw [hXe] at hX hXb hZb hZl HL
          rw [hYe] at hY hYb hZb hZl HL
          obtain ⟨Z, hZe⟩ : ∃ Z, X ++ Y = Z := ⟨_, rfl⟩
          rw [hZe] at hZb hZl HL
          have hpX := pk_length X
          have hpY := pk_length Y
          have hpZ := pk_length Z
          have qX : (pk X).length < 140737488355328 := by omega
          have qY : (pk Y).length < 140737488355328 := by omega
          have qZ : (pk Z).length < 140737488355328 := by omega
          have rX : X.length ≤ 1099511627776 := by omega
          have rY : Y.length ≤ 1099511627776 := by omega
          have rZ : Z.length ≤ 1099511627776 := by omega
          have sX : (pk X).length ≤ 1099511627776 := by omega
          have sY : (pk Y).length ≤ 1099511627776 := by omega
          have sZ : (pk Z).length ≤ 1099511627776 := by omega
          have HXB := Aside0.mk (pk_bytes hXb)
          have HYB := Aside0.mk (pk_bytes hYb)
          have HZB := Aside0.mk (pk_bytes hZb)
          have BX := Aside0.mk hXb
          have BY := Aside0.mk hYb
          have BZ := Aside0.mk hZb
          have HZE := Aside0.mk hZe
          have HXE := Aside0.mk hXe
          clear hXb hYb hZb hZe hXe hYe hpX hpY hpZ
          have hpX := pk_room X
          have hpY := pk_room Y
          have hpZ := pk_room Z
          have HZ0 := Aside0.mk (show Sat W wr (Wr gz Z :: Wr gy Y :: Wr gx X :: []) from HL.out.nth 1 rfl)
          clear HL
          go_upto_region 17 with (first | (go_at_call 23; go_loud ((with_reducible refine (Bytes_calls W _ _ gz Z rZ HZ0.out).mono ?_); rintro e wbz ⟨vb, rfl, hs⟩; obtain ⟨Abz, cbz, rfl, hcbz, hCb⟩ := hs.rowSlice; have HCbz := Aside0.mk hCb; have HBz := Aside0.mk hs; clear hs hCb)) | (go_at_call 14; go_loud ((with_reducible refine (NewReader_calls W _ _ Abz cbz (pk Z) HCbz.out hcbz qZ HBz.out).mono ?_); rintro e wnz ⟨rr, rfl, hs⟩; have HZ1 := Aside0.mk (show Sat W wnz (Rd rr (pk Z) 0 :: Wr gz Z :: Wr gy Y :: Wr gx X :: []) from ((hs.nth 1 rfl).tail)); clear hs HBz HCbz HZ0)))
          have HX0 := Aside0.mk (show Sat W wnz (Wr gx X :: Rd rr (pk Z) 0 :: Wr gz Z :: Wr gy Y :: []) from HZ1.out.nth 3 rfl)
          clear HZ1
          go_upto_region 18 with (first | (go_at_call 23; go_loud ((with_reducible refine (Bytes_calls W _ _ gx X rX HX0.out).mono ?_); rintro e wbx ⟨vb, rfl, hs⟩; obtain ⟨Abx, cbx, rfl, hcbx, hCb⟩ := hs.rowSlice; have HCbx := Aside0.mk hCb; have HBx := Aside0.mk hs; clear hs hCb)) | (go_at_call 14; go_loud ((with_reducible refine (NewReader_calls W _ _ Abx cbx (pk X) HCbx.out hcbx qX HBx.out).mono ?_); rintro e wnx ⟨rs, rfl, hs⟩; have HX1 := Aside0.mk (show Sat W wnx (Rd rs (pk X) 0 :: Wr gx X :: Rd rr (pk Z) 0 :: Wr gz Z :: Wr gy Y :: []) from ((hs.nth 1 rfl).tail)); clear hs HBx HCbx HX0)))
          have HY0 := Aside0.mk (show Sat W wnx (Wr gy Y :: Rd rs (pk X) 0 :: Wr gx X :: Rd rr (pk Z) 0 :: Wr gz Z :: []) from HX1.out.nth 4 rfl)
          clear HX1
          go_wp2_with (first | (go_at_call 23; go_loud ((with_reducible refine (Bytes_calls W _ _ gy Y rY HY0.out).mono ?_); rintro e wby ⟨vb, rfl, hs⟩; obtain ⟨Aby, cby, rfl, hcby, hCb⟩ := hs.rowSlice; have HCby := Aside0.mk hCb; have HBy := Aside0.mk hs; clear hs hCb)) | (go_at_call 14; go_loud ((with_reducible refine (NewReader_calls W _ _ Aby cby (pk Y) HCby.out hcby qY HBy.out).mono ?_); rintro e wny ⟨rt, rfl, hs⟩; have HY1 := Aside0.mk (show Sat W wny (Rd rt (pk Y) 0 :: Wr gy Y :: Rd rs (pk X) 0 :: Wr gx X :: Rd rr (pk Z) 0 :: Wr gz Z :: []) from ((hs.nth 1 rfl).tail)); clear hs HBy HCby HY0)))
          have HG0 := Aside0.mk (show Sat W wny (Rd rr (pk Z) 0 :: Rd rs (pk X) 0 :: Rd rt (pk Y) 0 :: Wr gx X :: Wr gy Y :: Wr gz Z :: []) from (((((HY1.out.nth 5 rfl).nth 2 rfl).nth 4 rfl).nth 3 rfl).nth 4 rfl).nth 5 rfl)
          go_loopw [13] (fun v13 wr => ∃ (i : Nat), i ≤ X.length ∧ v13 = .int .i64 i ∧ Aside0 (Sat W wr (Rd rr (pk Z) i :: Rd rs (pk X) i :: Rd rt (pk Y) 0 :: Wr gx X :: Wr gy Y :: Wr gz Z :: []))) (fun v13 _ => X.length - (intOf v13).toNat)
          case atStart => exact ⟨0, Nat.zero_le _, rfl, HG0⟩
          case round =>
            obtain ⟨i, hi, rfl, HG⟩ := hrel
            clear HG0 HY1
            by_cases hlt : i < X.length
            · have hlti : decide ((i : Int) < (X.length : Int)) = true := by simp; omega
              have hltn : decide (i < X.length) = true := by simp; omega
              have hc1 : cutN 1 = 1 := rfl
              have p1 : i ≤ 8 * (pk Z).length := by omega
              have p2 : i ≤ 8 * (pk X).length := by omega
              have p3 : cutN 1 ≤ 8 * (pk Z).length - (i) := by omega
              have p4 : cutN 1 ≤ 8 * (pk X).length - i := by omega
              have e1 : getN (pk Z) (i) (cutN 1) = getN (pk X) i (cutN 1) := by
                rw [getN_one BZ.out (by omega), getN_one BX.out hlt, ← HZE.out, List.getD_eq_getElem?_getD, List.getD_eq_getElem?_getD]
                rw [List.getElem?_append_left hlt]
              obtain ⟨vg, hvg⟩ : ∃ vg, getN (pk X) i (cutN 1) = vg := ⟨_, rfl⟩
              rw [hvg] at e1
              have HE1 := Aside0.mk e1
              have HE2 := Aside0.mk hvg
              clear e1 hvg hc1
              go_upto_region 23 with (first | (go_at_call 22; go_loud ((with_reducible refine (Len_calls W _ _ gx X (HG.out.nth 3 rfl)).mono ?_); rintro e w4 ⟨rfl, rfl⟩)) | (go_at_call 16; go_loud ((with_reducible refine (Get_ok W _ _ rr (pk Z) (i) 1 sZ HZB.out p1 p3 HG.out).mono ?_); rintro e w7 ⟨rfl, hs7⟩; rw [HE1.out]; have HG1 := Aside0.mk (hs7.nth 1 rfl); clear hs7 HG)))
              go_wp2_with (first | (go_at_call 16; go_loud ((with_reducible refine (Get_ok W _ _ rs (pk X) i 1 sX HXB.out p2 p4 HG1.out).mono ?_); rintro e w8 ⟨rfl, hs8⟩; rw [HE2.out]; have H23 := Aside0.mk (show Sat W w8 (Rd rr (pk Z) (i + 1) :: Rd rs (pk X) (i + 1) :: Rd rt (pk Y) 0 :: Wr gx X :: Wr gy Y :: Wr gz Z :: []) from hs8.nth 1 rfl); clear hs8 HG1)))
              go_roundw
              case measure => simp [intOf]; omega
              case rel => exact ⟨i + 1, by omega, by go_num, H23⟩
            · have hlti : decide ((i : Int) < (X.length : Int)) = false := by simp; omega
              have hltn : decide (i < X.length) = false := by simp; omega
              have hie : i = X.length := by omega
              subst hie
              clear hi hlt
              go_wp2_with (first | (go_at_call 22; go_loud ((with_reducible refine (Len_calls W _ _ gx X (HG.out.nth 3 rfl)).mono ?_); rintro e w4 ⟨rfl, rfl⟩)))
              have HG3 := Aside0.mk (show Sat W wr (Rd rr (pk Z) (X.length + 0) :: Rd rt (pk Y) 0 :: Wr gx X :: Wr gy Y :: Wr gz Z :: []) from ((HG.out.nth 1 rfl).tail.nth 1 rfl).nth 1 rfl)
              clear HG
              go_loopw [18] (fun v18 wr => ∃ (i : Nat), i ≤ Y.length ∧ v18 = .int .i64 i ∧ Aside0 (Sat W wr (Rd rr (pk Z) (X.length + i) :: Rd rt (pk Y) i :: Wr gx X :: Wr gy Y :: Wr gz Z :: []))) (fun v18 _ => Y.length - (intOf v18).toNat)
              case atStart => exact ⟨0, Nat.zero_le _, rfl, HG3⟩
              case round =>
                obtain ⟨i, hi, rfl, HG⟩ := hrel
                clear HG3
                by_cases hlt : i < Y.length
                · have hlti : decide ((i : Int) < (Y.length : Int)) = true := by simp; omega
                  have hltn : decide (i < Y.length) = true := by simp; omega
                  have hc1 : cutN 1 = 1 := rfl
                  have p1 : X.length + i ≤ 8 * (pk Z).length := by omega
                  have p2 : i ≤ 8 * (pk Y).length := by omega
                  have p3 : cutN 1 ≤ 8 * (pk Z).length - (X.length + i) := by omega
                  have p4 : cutN 1 ≤ 8 * (pk Y).length - i := by omega
                  have e1 : getN (pk Z) (X.length + i) (cutN 1) = getN (pk Y) i (cutN 1) := by
                    rw [getN_one BZ.out (by omega), getN_one BY.out hlt, ← HZE.out, List.getD_eq_getElem?_getD, List.getD_eq_getElem?_getD]
                    rw [List.getElem?_append_right (by omega), Nat.add_sub_cancel_left]
                  obtain ⟨vg, hvg⟩ : ∃ vg, getN (pk Y) i (cutN 1) = vg := ⟨_, rfl⟩
                  rw [hvg] at e1
                  have HE1 := Aside0.mk e1
                  have HE2 := Aside0.mk hvg
                  clear e1 hvg hc1
                  go_upto_region 30 with (first | (go_at_call 22; go_loud ((with_reducible refine (Len_calls W _ _ gy Y (HG.out.nth 3 rfl)).mono ?_); rintro e w4 ⟨rfl, rfl⟩)) | (go_at_call 16; go_loud ((with_reducible refine (Get_ok W _ _ rr (pk Z) (X.length + i) 1 sZ HZB.out p1 p3 HG.out).mono ?_); rintro e w7 ⟨rfl, hs7⟩; rw [HE1.out]; have HG1 := Aside0.mk (hs7.nth 1 rfl); clear hs7 HG)))
                  go_wp2_with (first | (go_at_call 16; go_loud ((with_reducible refine (Get_ok W _ _ rt (pk Y) i 1 sY HYB.out p2 p4 HG1.out).mono ?_); rintro e w8 ⟨rfl, hs8⟩; rw [HE2.out]; have H30 := Aside0.mk (show Sat W w8 (Rd rr (pk Z) (X.length + (i + 1)) :: Rd rt (pk Y) (i + 1) :: Wr gx X :: Wr gy Y :: Wr gz Z :: []) from hs8.nth 1 rfl); clear hs8 HG1)))
                  go_roundw
                  case measure => simp [intOf]; omega
                  case rel => exact ⟨i + 1, by omega, by go_num, H30⟩
                · have hlti : decide ((i : Int) < (Y.length : Int)) = false := by simp; omega
                  have hltn : decide (i < Y.length) = false := by simp; omega
                  have hie : i = Y.length := by omega
                  subst hie
                  clear hi hlt
                  go_wp2_with (first | (go_at_call 22; go_loud ((with_reducible refine (Len_calls W _ _ gy Y (HG.out.nth 3 rfl)).mono ?_); rintro e w4 ⟨rfl, rfl⟩)))
                  have HF := Aside0.mk (show Sat W wr (Wr gx X :: Wr gy Y :: Wr gz Z :: []) from HG.out.tail.tail)
                  clear HG
                  have HB := Aside0.mk HF.out.below
                  go_loopw [24, 23] (fun v24 v23 wq => ∃ (m : Nat), m ≤ l0.length ∧ v24 = .int .i64 m ∧ v23 = .int .i64 ((allBits (l0.take m)).length : Nat) ∧ Aside0 (Sat W wq (Wr gx X :: Wr gy Y :: Wr gz Z :: []))) (fun v24 _ _ => l0.length - (intOf v24).toNat)
                  case atStart => exact ⟨0, Nat.zero_le _, rfl, rfl, HF⟩
                  case round =>
                    obtain ⟨m, hm, rfl, rfl, HM⟩ := hrel
                    clear HF
                    have hbl := allBits_length (l0.take m)
                    rw [List.length_take, Nat.min_eq_left hm] at hbl
                    by_cases hlt : m < l0.length
                    · have hlti : decide ((m : Int) < (l0.length : Int)) = true := by simp; omega
                      have hltn : decide (m < l0.length) = true := by simp; omega
                      obtain ⟨ad, vn, nn, rfl, hst, hvl, hnr, hXX⟩ := step_at HR0.out HW0.out hlt
                      have hlen := congrArg List.length (allBits_succ hlt hst)
                      rw [List.length_append, bitsOf_length] at hlen
                      obtain ⟨hx0, hx1⟩ := hXX _ HM.out.below
                      obtain ⟨bl, hble⟩ : ∃ bl, (allBits (l0.take m)).length = bl := ⟨_, rfl⟩
                      rw [hble] at hlen hbl ⊢
                      have hk0 : (0 : Int) ≤ (m : Int) := by omega
                      have hk1 : (m : Int) < (l0.length : Int) := by omega
                      clear hst hXX hnr hble
                      rcases (show nn ≤ 0 ∨ (0 < nn ∧ nn < 64) ∨ 64 ≤ nn from by omega) with hnn | ⟨hnn, hnn2⟩ | hnn
                      · have hcc : cutN nn = 0 := by unfold cutN; omega
                        rw [hcc] at hlen
                        go_wp2
                        go_roundw
                        case measure => simp [intOf]; omega
                        case rel => exact ⟨m + 1, by omega, by go_num, by rw [hlen]; go_num, HM⟩
                      · obtain ⟨c, rfl⟩ : ∃ c : Nat, nn = (c : Int) := ⟨nn.toNat, by omega⟩
                        have hcc : cutN (c : Int) = c := by unfold cutN; omega
                        rw [hcc] at hlen
                        go_wp2
                        go_roundw
                        case measure => simp [intOf]; omega
                        case rel => exact ⟨m + 1, by omega, by go_num, by rw [hlen]; go_num, HM⟩
                      · have hcc : cutN nn = 64 := by unfold cutN; omega
                        rw [hcc] at hlen
                        go_wp2
                        go_roundw
                        case measure => simp [intOf]; omega
                        case rel => exact ⟨m + 1, by omega, by go_num, by rw [hlen]; go_num, HM⟩
                    · have hlti : decide ((m : Int) < (l0.length : Int)) = false := by simp; omega
                      have hltn : decide (m < l0.length) = false := by simp; omega
                      rw [List.take_of_length_le (by omega), HXE.out]
                      have hZi : ((Z.length : Int) == (X.length : Int) + (Y.length : Int)) = true := by rw [beq_iff_eq]; omega
                      clear hm hlt hbl
                      go_wp2_with (first | (go_at_call 22; go_loud (first | ((with_reducible refine (Len_calls W _ _ gx X HM.out).mono ?_); rintro e w4 ⟨rfl, rfl⟩) | ((with_reducible refine (Len_calls W _ _ gy Y (HM.out.nth 1 rfl)).mono ?_); rintro e w4 ⟨rfl, rfl⟩) | ((with_reducible refine (Len_calls W _ _ gz Z (HM.out.nth 2 rfl)).mono ?_); rintro e w4 ⟨rfl, rfl⟩))))
                      go_ret
                      exact ⟨rfl, HM.out.below⟩
end Go.Proofs.Ytnhfkiiknmnjgaa.LwBitsJoined
