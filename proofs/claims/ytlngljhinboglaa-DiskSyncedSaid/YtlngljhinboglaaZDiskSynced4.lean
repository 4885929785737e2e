/- What a disk's crash comes to.
   What a disk's small calls come to. -/
import Derived.Test.YtlngljhinboglaaZDiskSynced3
import Derived.Outline
import Derived.Deep.CutBlock
namespace Go.Proofs.Ytlngljhinboglaa.DkC
open Go.RowKit Go.WideMaps Go.ChangeMaps Go.MapKept Go.Maps Go.Lib Go.Proofs.YtlngljhinboglaaW.PrintWords Go.Proofs.YtlngljhinboglaaW.PrintLast Go.Proofs.YtlngljhinboglaaW.PrintMore Go.Proofs.Ytlngljhinboglaa.Sl Go.Proofs.Ytlngljhinboglaa.DkP Go.Proofs.Ytlngljhinboglaa.DkS Go.Proofs.Ytlngljhinboglaa.DkW Go.Proofs.Ytlngljhinboglaa.DkT Go.Proofs.Ytlngljhinboglaa.DkV
set_option linter.unusedVariables false
set_option linter.unusedSimpArgs false
theorem Store.mapAt {w0 w : World} {L : List Asn} {ms : List (Nat × FS Cnt)} {hs : List (Value × Cnt)} (h : Sat w0 w (Store ms hs :: L)) {m : Nat × FS Cnt} (hm : m ∈ ms) : ∃ F, MapAt w F m := by
  obtain ⟨G, hg, _⟩ := h.get
  exact ⟨G, hg.2.1 m hm⟩
theorem wt_take {r : List Ch} {k : Nat} {c : Ch} (h : r[k]? = some c) : wt (r.take (k + 1)) = wt (r.take k) + c.size := by
  rw [List.take_add_one, h, wt_append]
  simp [wt]
theorem wt_take_le (r : List Ch) (k : Nat) : wt (r.take k) ≤ wt r := by
  have := wt_append (r.take k) (r.drop k)
  rw [List.take_append_drop] at this
  omega
theorem _root_.Go.Proofs.Ytlngljhinboglaa.DkW.Str.setNew {x : Nat} {a : ByteArray} {w : World} (h : Str x a w) (o : Obj) (cs : Array Value) : Str x a ((w.alloc o).setRow w.heap.size cs) := by
  have hlt := h.lt
  unfold Str at h ⊢
  rw [setRow_other (w.alloc o) w.heap.size x cs (by omega), heap_alloc_old w o hlt]
  exact h
theorem app_callsZ (w0 w : World) (L : List Asn) (b x y : Nat) (f : FS Cnt) (ms : List (Nat × FS Cnt)) (a s : ByteArray) (n : Nat) (z : Int) (hz : z = (n : Int)) (hn : n ≤ s.size) (ha : a.size ≤ maxLen) (hf : f.length < 1000000) (hc : ((get (nm a) f).getD []).length + n ≤ 1099511627776) (hx : Str x a w) (hy : Str y s w) (h : Sat w0 w (Store ((b, f) :: ms) [] :: L)) :
    Calls Try.prog 30 #[.map (some b), .int .i64 z, .pointer (some ⟨x, 0, none⟩), .pointer (some ⟨y, 0, none⟩)] w fun e w' => e = .returned (.tuple #[]) ∧ Sat w0 w' (Store ((b, (Ch.app a s).go n f) :: ms) [] :: L) := by
  subst hz
  exact app_calls w0 w L b x y f ms a s n hn ha hf hc hx hy h
attribute [local go_sem] min2_int min_two
set_option maxHeartbeats 16000000 in
set_option maxRecDepth 100000 in
theorem crash_calls (w0 w : World) (L : List Asn) (g : Nat) (d : DS) (N S : Nat) (keep part : Int) (hN : N ≤ 100000) (hS : S ≤ 68719476736) (ok : Ok d N S) (h : Sat w0 w (Dk g d :: L)) :
    Calls Try.prog 23 #[.pointer (some ⟨g, 0, none⟩), .int .i64 keep, .int .i64 part] w fun e w' => e = .returned (.tuple #[]) ∧ Sat w0 w' (Dk g (d.crash keep part) :: L) := by
  obtain ⟨fb, lb, A, c, ps, hpl, hpc, h1⟩ := Dk.open h
  by_cases hd : d.dead = true
  · have x9 := h1.cell 9 (v := .bool true) (by simp [cellsOf, hd])
    have HS := Aside0.mk (show Sat w0 w (Dk g (d.crash keep part) :: L) from by unfold DS.crash; rw [if_pos hd]; exact h)
    clear h h1 ok hd hpl hpc
    go_enter Try.func23, Try.ntmps23
    go_wp2
    try simp only [Exit.inBlock, Exit.then]
    refine bodyPost_ret (results_none rfl _ _ _) rfl ?_
    exact ⟨rfl, HS.out⟩
  have hdf : d.dead = false := by simpa using hd
  have x9 := h1.cell 9 (v := .bool false) (by simp [cellsOf, hdf])
  have x3 := h1.cell 3 (v := .map (some lb)) rfl
  obtain ⟨es, clock, hb, h2⟩ := Store.clone (h1.nth 1 rfl) (b := lb) (f := d.lasting) (by simp)
  have HB := Aside0.mk hb
  have H2 := Aside0.mk h2
  have OK := Aside0.mk ok
  have HPL := Aside0.mk hpl
  clear h h1 h2 hb ok hd
  go_enter Try.func23, Try.ntmps23
  go_upto_region 2 with (first | (go_at_call 40; go_loud ((with_reducible refine (Clone_calls _ lb es clock HB.out).mono ?_); rintro e w1 ⟨rfl, rfl⟩)))
  clear x9 x3 HB
  generalize w.alloc (.map es clock) = w1 at H2 ⊢
  generalize w.heap.size = nb at H2 ⊢
  obtain ⟨m, hm⟩ : ∃ m, d.pend.length = m := ⟨_, rfl⟩
  rw [hm] at H2 HPL hpl
  have HM := Aside0.mk hm
  have H3 := Aside0.mk (show Sat w0 w1 (Store [(nb, d.lasting), (fb, d.files), (lb, d.lasting)] [] :: Row kFC 63 (.slice A m c) ps :: Caps ps d.pend :: Blk g (cellsOf d fb lb (.slice A m c)) 56 :: L) from (((H2.out.nth 1 rfl).nth 3 rfl).nth 3 rfl).nth 3 rfl)
  clear H2
  have x4 := (H3.out.nth 3 rfl).cell 4 (v := .slice A m c) rfl
  go_upto_block 0 with (fail)
  clear x4
  go_cut [6] from 24 (fun v6 wc => v6 = .map (some nb) ∧ Aside0 (Sat w0 wc (Store [(nb, crashF keep part 0 d.pend d.lasting), (fb, d.files), (lb, d.lasting)] [] :: Row kFC 63 (.slice A m c) ps :: Caps ps d.pend :: Blk g (cellsOf d fb lb (.slice A m c)) 56 :: L)))
  case first =>
    go_wp2
    go_loopw [23] (fun v23 wr => ∃ (k : Nat) (fc : FS Cnt), k ≤ m ∧ v23 = .int .i64 k ∧ Aside0 (crashF keep part k (d.pend.drop k) fc = crashF keep part 0 d.pend d.lasting) ∧ Aside0 (Rising fc) ∧ Aside0 (fc.length ≤ d.lasting.length + k) ∧ Aside0 (tot fc ≤ tot d.lasting + wt (d.pend.take k)) ∧ Aside0 (Sat w0 wr (Store [(nb, fc), (fb, d.files), (lb, d.lasting)] [] :: Row kFC 63 (.slice A m c) ps :: Caps ps d.pend :: Blk g (cellsOf d fb lb (.slice A m c)) 56 :: L))) (fun v23 _ => (m - intOf v23).toNat)
    case atStart => exact ⟨0, d.lasting, Nat.zero_le _, rfl, ⟨by rw [List.drop_zero]⟩, ⟨OK.out.rl⟩, ⟨Nat.le_refl _⟩, ⟨Nat.le_add_right _ _⟩, H3⟩
    case round =>
      obtain ⟨k, fc, hk, rfl, HC, HRi, HL, HT, HS⟩ := hrel
      clear H3
      by_cases hkm : k < m
      rotate_left
      · have d1 : decide ((k : Int) < (m : Int)) = false := decide_eq_false (by omega)
        have d2 : decide (k < m) = false := decide_eq_false (by omega)
        have HF := Aside0.mk (show fc = crashF keep part 0 d.pend d.lasting from by
          rw [← HC.out, List.drop_of_length_le (by have := HM.out; omega)]
          rfl)
        clear HC
        go_wp2
        go_meet
        case rel => exact ⟨rfl, ⟨by rw [← HF.out]; exact HS.out⟩⟩
      obtain ⟨ch, hch⟩ : ∃ ch, d.pend[k]? = some ch := ⟨_, List.getElem?_eq_getElem (by have := HM.out; omega)⟩
      have d1 : decide ((k : Int) < (m : Int)) = true := decide_eq_true (by omega)
      have d2 : decide (k < m) = true := decide_eq_true hkm
      have i1 : (0 : Int) ≤ (k : Int) := by omega
      have hmN : m ≤ 100000 := by have := OK.out.nl; have := HM.out; omega
      have e1 : wrap64 ((k : Int) + 1) = ((k + 1 : Nat) : Int) := by unfold wrap64; omega
      have i2 : (k : Int) < (m : Int) := by omega
      have hfn := Caps.at_ (HS.out.nth 2 rfl) hch
      have hfit := OK.out.nm ch (List.mem_of_getElem? hch)
      obtain ⟨ad, hAd, q0, q1, q2⟩ := at_FC (HS.out.nth 1 rfl).rowC k (by have := HPL.out; have := HM.out; omega)
      subst hAd
      have hdr : d.pend.drop k = ch :: d.pend.drop (k + 1) := by
        have hlt := (List.getElem?_eq_some_iff.1 hch).1
        rw [List.drop_eq_getElem_cons hlt]
        congr 1
        exact (List.getElem?_eq_some_iff.1 hch).2
      have hcf := HC.out
      rw [hdr, crashF] at hcf
      have HA := Aside0.mk (HS.out.newBlk #[.nilFunc, .bool false, .int .i64 0] 63)
      have HCH := Aside0.mk hch
      have hN1 : fc.length < 1000000 := by have := HL.out; have := OK.out.nl; omega
      have hT1 : tot fc + wt d.pend ≤ 200000000000 := by have := HT.out; have := OK.out.tl; have := wt_take_le d.pend k; omega
      have hsz : ch.size ≤ wt d.pend := by
        have := wt_take (k := k) hch
        have := wt_take_le d.pend (k + 1)
        omega
      clear HC hdr hch
      cases ch with
      | app a s =>
        obtain ⟨x, y, e, _, _, sx, sy⟩ := hfn
        rw [e] at q0 q1 q2
        simp only at q0 q1 q2
        clear e
        simp only [Ch.size, Ch.isApp, true_and] at hcf hsz
        have hcn := len_le_tot (k := nm a) HRi.out
        have HSX := Aside0.mk (sx.setNew (.cells #[.nilFunc, .bool false, .int .i64 0] 63) #[.func (.func 30) #[] #[.pointer (some ⟨x, 0, none⟩), .pointer (some ⟨y, 0, none⟩)], .bool true, .int .i64 (s.size : Nat)])
        have HSY := Aside0.mk (sy.setNew (.cells #[.nilFunc, .bool false, .int .i64 0] 63) #[.func (.func 30) #[] #[.pointer (some ⟨x, 0, none⟩), .pointer (some ⟨y, 0, none⟩)], .bool true, .int .i64 (s.size : Nat)])
        have hm : maxLen = 9223372036854775807 := rfl
        have HFA := Aside0.mk (show a.size ≤ maxLen by have := hfit.1; omega)
        clear hfit hm sx sy
        by_cases hkk : (k : Int) < keep
        · rw [if_pos hkk] at hcf
          have HCg := Aside0.mk hcf
          have d3 : decide ((k : Int) < keep) = true := decide_eq_true hkk
          clear hcf hkk
          go_wp2_with (first | ((with_reducible refine gate_store (p := 8) rfl ?_); go_loud (refine wpList_store_row rfl 63 (.tmp 8) (.tmp 27) rfl wr.heap.size #[.func (.func 30) #[] #[.pointer (some ⟨x, 0, none⟩), .pointer (some ⟨y, 0, none⟩)], .bool true, .int .i64 (s.size : Nat)] rfl rfl 63 _ HA.out.blk (by kernel_rfl) rfl (by simp [Value.oneCell']) ?_; have HZ := Aside0.mk (Sat.setRow HA.out #[.func (.func 30) #[] #[.pointer (some ⟨x, 0, none⟩), .pointer (some ⟨y, 0, none⟩)], .bool true, .int .i64 (s.size : Nat)]); have z0 := HZ.out.cell 0 (v := .func (.func 30) #[] #[.pointer (some ⟨x, 0, none⟩), .pointer (some ⟨y, 0, none⟩)]) rfl; have z1 := HZ.out.cell 1 (v := .bool true) rfl; have z2 := HZ.out.cell 2 (v := .int .i64 (s.size : Nat)) rfl)) | (go_at_call 30; go_loud ((with_reducible refine (app_calls w0 _ _ nb x y fc _ a s s.size (Nat.le_refl _) HFA.out hN1 (by omega) HSX.out HSY.out (HZ.out.nth 1 rfl)).mono ?_); rintro e w2 ⟨rfl, hs2⟩; have HS2 := Aside0.mk hs2; clear hs2)))
          go_roundw
          case measure => simp only [intOf, e1]; omega
          case rel =>
            have hgr := Ch.go_rising (Ch.app a s) s.size HRi.out
            have hgl := Ch.go_length (Ch.app a s) s.size fc
            have hgt := go_tot (c := Ch.app a s) (n := s.size) (Nat.le_refl _) HRi.out
            have hL := HL.out
            have hT := HT.out
            have hw := wt_take (k := k) HCH.out
            refine ⟨k + 1, _, by omega, by first | (congr 1; omega) | rfl, ⟨HCg.out⟩, ⟨hgr⟩, ⟨by omega⟩, ⟨by omega⟩, ⟨(HS2.out.nth 1 rfl).tail⟩⟩
        · rw [if_neg hkk] at hcf
          have d3 : decide ((k : Int) < keep) = false := decide_eq_false hkk
          by_cases hp : 0 < part
          · rw [if_pos hp] at hcf
            have d4 : decide (0 < part) = true := decide_eq_true hp
            obtain ⟨n, hn⟩ : ∃ n : Nat, min part (s.size : Int) = (n : Int) := ⟨(min part (s.size : Int)).toNat, by omega⟩
            have hns : n ≤ s.size := by omega
            rw [hn, Int.toNat_natCast] at hcf
            have HCg := Aside0.mk hcf
            clear hcf hkk
            go_wp2_with (first | ((with_reducible refine gate_store (p := 8) rfl ?_); go_loud (refine wpList_store_row rfl 63 (.tmp 8) (.tmp 27) rfl wr.heap.size #[.func (.func 30) #[] #[.pointer (some ⟨x, 0, none⟩), .pointer (some ⟨y, 0, none⟩)], .bool true, .int .i64 (s.size : Nat)] rfl rfl 63 _ HA.out.blk (by kernel_rfl) rfl (by simp [Value.oneCell']) ?_; have HZ := Aside0.mk (Sat.setRow HA.out #[.func (.func 30) #[] #[.pointer (some ⟨x, 0, none⟩), .pointer (some ⟨y, 0, none⟩)], .bool true, .int .i64 (s.size : Nat)]); have z0 := HZ.out.cell 0 (v := .func (.func 30) #[] #[.pointer (some ⟨x, 0, none⟩), .pointer (some ⟨y, 0, none⟩)]) rfl; have z1 := HZ.out.cell 1 (v := .bool true) rfl; have z2 := HZ.out.cell 2 (v := .int .i64 (s.size : Nat)) rfl)) | (go_at_call 30; go_loud ((with_reducible refine (app_callsZ w0 _ _ nb x y fc _ a s n _ (by omega) hns HFA.out hN1 (by omega) HSX.out HSY.out (HZ.out.nth 1 rfl)).mono ?_); rintro e w2 ⟨rfl, hs2⟩; have HS2 := Aside0.mk hs2; clear hs2)))
            all_goals (go_meet; exact ⟨rfl, ⟨by rw [← HCg.out]; exact (HS2.out.nth 1 rfl).tail⟩⟩)
          · rw [if_neg hp] at hcf
            have d4 : decide (0 < part) = false := decide_eq_false hp
            have HCg := Aside0.mk hcf
            clear hcf hkk
            go_wp2_with (first | ((with_reducible refine gate_store (p := 8) rfl ?_); go_loud (refine wpList_store_row rfl 63 (.tmp 8) (.tmp 27) rfl wr.heap.size #[.func (.func 30) #[] #[.pointer (some ⟨x, 0, none⟩), .pointer (some ⟨y, 0, none⟩)], .bool true, .int .i64 (s.size : Nat)] rfl rfl 63 _ HA.out.blk (by kernel_rfl) rfl (by simp [Value.oneCell']) ?_; have HZ := Aside0.mk (Sat.setRow HA.out #[.func (.func 30) #[] #[.pointer (some ⟨x, 0, none⟩), .pointer (some ⟨y, 0, none⟩)], .bool true, .int .i64 (s.size : Nat)]); have z0 := HZ.out.cell 0 (v := .func (.func 30) #[] #[.pointer (some ⟨x, 0, none⟩), .pointer (some ⟨y, 0, none⟩)]) rfl; have z1 := HZ.out.cell 1 (v := .bool true) rfl; have z2 := HZ.out.cell 2 (v := .int .i64 (s.size : Nat)) rfl)))
            go_meet
            case rel => exact ⟨rfl, ⟨by rw [← HCg.out]; exact HZ.out.tail⟩⟩
      | ren a b =>
        obtain ⟨x, y, e, _, _, sx, sy⟩ := hfn
        rw [e] at q0 q1 q2
        simp only at q0 q1 q2
        clear e
        simp only [Ch.size, Ch.isApp, Bool.false_eq_true, false_and, if_false] at hcf hsz
        have HSX := Aside0.mk (sx.setNew (.cells #[.nilFunc, .bool false, .int .i64 0] 63) #[.func (.func 46) #[] #[.pointer (some ⟨x, 0, none⟩), .pointer (some ⟨y, 0, none⟩)], .bool false, .int .i64 0])
        have HSY := Aside0.mk (sy.setNew (.cells #[.nilFunc, .bool false, .int .i64 0] 63) #[.func (.func 46) #[] #[.pointer (some ⟨x, 0, none⟩), .pointer (some ⟨y, 0, none⟩)], .bool false, .int .i64 0])
        have hm : maxLen = 9223372036854775807 := rfl
        have HFA := Aside0.mk (show a.size ≤ maxLen by have : a.size ≤ 40 := hfit.1; omega)
        have HFB := Aside0.mk (show b.size ≤ maxLen by have : b.size ≤ 40 := hfit.2; omega)
        clear hfit hm sx sy
        by_cases hkk : (k : Int) < keep
        · rw [if_pos hkk] at hcf
          have HCg := Aside0.mk hcf
          have d3 : decide ((k : Int) < keep) = true := decide_eq_true hkk
          clear hcf hkk
          go_wp2_with (first | ((with_reducible refine gate_store (p := 8) rfl ?_); go_loud (refine wpList_store_row rfl 63 (.tmp 8) (.tmp 27) rfl wr.heap.size #[.func (.func 46) #[] #[.pointer (some ⟨x, 0, none⟩), .pointer (some ⟨y, 0, none⟩)], .bool false, .int .i64 0] rfl rfl 63 _ HA.out.blk (by kernel_rfl) rfl (by simp [Value.oneCell']) ?_; have HZ := Aside0.mk (Sat.setRow HA.out #[.func (.func 46) #[] #[.pointer (some ⟨x, 0, none⟩), .pointer (some ⟨y, 0, none⟩)], .bool false, .int .i64 0]); have z0 := HZ.out.cell 0 (v := .func (.func 46) #[] #[.pointer (some ⟨x, 0, none⟩), .pointer (some ⟨y, 0, none⟩)]) rfl; have z1 := HZ.out.cell 1 (v := .bool false) rfl; have z2 := HZ.out.cell 2 (v := .int .i64 0) rfl)) | (go_at_call 46; go_loud ((with_reducible refine (ren_calls w0 _ _ nb x y _ fc _ a b HFA.out HFB.out hN1 HSX.out HSY.out (HZ.out.nth 1 rfl)).mono ?_); rintro e w2 ⟨rfl, hs2⟩; have HS2 := Aside0.mk hs2; clear hs2)))
          go_roundw
          case measure => simp only [intOf, e1]; omega
          case rel =>
            have hgr := Ch.go_rising (Ch.ren a b) 0 HRi.out
            have hgl := Ch.go_length (Ch.ren a b) 0 fc
            have hgt := go_tot (c := Ch.ren a b) (n := 0) (Nat.le_refl _) HRi.out
            have hL := HL.out
            have hT := HT.out
            have hw := wt_take (k := k) HCH.out
            refine ⟨k + 1, _, by omega, by first | (congr 1; omega) | rfl, ⟨HCg.out⟩, ⟨hgr⟩, ⟨by omega⟩, ⟨by omega⟩, ⟨(HS2.out.nth 1 rfl).tail⟩⟩
        · rw [if_neg hkk] at hcf
          have d3 : decide ((k : Int) < keep) = false := decide_eq_false hkk
          have HCg := Aside0.mk hcf
          clear hcf hkk
          go_wp2_with (first | ((with_reducible refine gate_store (p := 8) rfl ?_); go_loud (refine wpList_store_row rfl 63 (.tmp 8) (.tmp 27) rfl wr.heap.size #[.func (.func 46) #[] #[.pointer (some ⟨x, 0, none⟩), .pointer (some ⟨y, 0, none⟩)], .bool false, .int .i64 0] rfl rfl 63 _ HA.out.blk (by kernel_rfl) rfl (by simp [Value.oneCell']) ?_; have HZ := Aside0.mk (Sat.setRow HA.out #[.func (.func 46) #[] #[.pointer (some ⟨x, 0, none⟩), .pointer (some ⟨y, 0, none⟩)], .bool false, .int .i64 0]); have z0 := HZ.out.cell 0 (v := .func (.func 46) #[] #[.pointer (some ⟨x, 0, none⟩), .pointer (some ⟨y, 0, none⟩)]) rfl; have z1 := HZ.out.cell 1 (v := .bool false) rfl; have z2 := HZ.out.cell 2 (v := .int .i64 0) rfl)))
          go_meet
          case rel => exact ⟨rfl, ⟨by rw [← HCg.out]; exact HZ.out.tail⟩⟩
      | rem a =>
        obtain ⟨x, e, _, sx⟩ := hfn
        rw [e] at q0 q1 q2
        simp only at q0 q1 q2
        clear e
        simp only [Ch.size, Ch.isApp, Bool.false_eq_true, false_and, if_false] at hcf hsz
        have HSX := Aside0.mk (sx.setNew (.cells #[.nilFunc, .bool false, .int .i64 0] 63) #[.func (.func 32) #[] #[.pointer (some ⟨x, 0, none⟩)], .bool false, .int .i64 0])
        have hm : maxLen = 9223372036854775807 := rfl
        have HFA := Aside0.mk (show a.size ≤ maxLen by have : a.size ≤ 40 := hfit; omega)
        clear hfit hm sx
        by_cases hkk : (k : Int) < keep
        · rw [if_pos hkk] at hcf
          have HCg := Aside0.mk hcf
          have d3 : decide ((k : Int) < keep) = true := decide_eq_true hkk
          clear hcf hkk
          go_wp2_with (first | ((with_reducible refine gate_store (p := 8) rfl ?_); go_loud (refine wpList_store_row rfl 63 (.tmp 8) (.tmp 27) rfl wr.heap.size #[.func (.func 32) #[] #[.pointer (some ⟨x, 0, none⟩)], .bool false, .int .i64 0] rfl rfl 63 _ HA.out.blk (by kernel_rfl) rfl (by simp [Value.oneCell']) ?_; have HZ := Aside0.mk (Sat.setRow HA.out #[.func (.func 32) #[] #[.pointer (some ⟨x, 0, none⟩)], .bool false, .int .i64 0]); have z0 := HZ.out.cell 0 (v := .func (.func 32) #[] #[.pointer (some ⟨x, 0, none⟩)]) rfl; have z1 := HZ.out.cell 1 (v := .bool false) rfl; have z2 := HZ.out.cell 2 (v := .int .i64 0) rfl)) | (go_at_call 32; go_loud ((with_reducible refine (rem_calls w0 _ _ nb x _ fc _ a HFA.out HSX.out (HZ.out.nth 1 rfl)).mono ?_); rintro e w2 ⟨rfl, hs2⟩; have HS2 := Aside0.mk hs2; clear hs2)))
          go_roundw
          case measure => simp only [intOf, e1]; omega
          case rel =>
            have hgr := Ch.go_rising (Ch.rem a) 0 HRi.out
            have hgl := Ch.go_length (Ch.rem a) 0 fc
            have hgt := go_tot (c := Ch.rem a) (n := 0) (Nat.le_refl _) HRi.out
            have hL := HL.out
            have hT := HT.out
            have hw := wt_take (k := k) HCH.out
            refine ⟨k + 1, _, by omega, by first | (congr 1; omega) | rfl, ⟨HCg.out⟩, ⟨hgr⟩, ⟨by omega⟩, ⟨by omega⟩, ⟨(HS2.out.nth 1 rfl).tail⟩⟩
        · rw [if_neg hkk] at hcf
          have d3 : decide ((k : Int) < keep) = false := decide_eq_false hkk
          have HCg := Aside0.mk hcf
          clear hcf hkk
          go_wp2_with (first | ((with_reducible refine gate_store (p := 8) rfl ?_); go_loud (refine wpList_store_row rfl 63 (.tmp 8) (.tmp 27) rfl wr.heap.size #[.func (.func 32) #[] #[.pointer (some ⟨x, 0, none⟩)], .bool false, .int .i64 0] rfl rfl 63 _ HA.out.blk (by kernel_rfl) rfl (by simp [Value.oneCell']) ?_; have HZ := Aside0.mk (Sat.setRow HA.out #[.func (.func 32) #[] #[.pointer (some ⟨x, 0, none⟩)], .bool false, .int .i64 0]); have z0 := HZ.out.cell 0 (v := .func (.func 32) #[] #[.pointer (some ⟨x, 0, none⟩)]) rfl; have z1 := HZ.out.cell 1 (v := .bool false) rfl; have z2 := HZ.out.cell 2 (v := .int .i64 0) rfl)))
          go_meet
          case rel => exact ⟨rfl, ⟨by rw [← HCg.out]; exact HZ.out.tail⟩⟩
  case rest =>
    obtain ⟨rfl, HS⟩ := hcut
    obtain ⟨hF1, hF2, hF3⟩ := crashF_ok keep part d.pend 0 OK.out.rl
    obtain ⟨Fl, hFl⟩ : ∃ Fl, crashF keep part 0 d.pend d.lasting = Fl := ⟨_, rfl⟩
    have HFD := Aside0.mk (show d.crash keep part = { d with files := Fl, lasting := Fl, pend := [], left := -1, dead := true } from by unfold DS.crash; rw [hdf, hFl]; rfl)
    rw [hFl] at hF1 hF2 hF3 HS
    obtain ⟨es2, clock2, hb2, h5⟩ := Store.clone HS.out (b := nb) (f := Fl) (by simp)
    have HB2 := Aside0.mk hb2
    have h5b := h5.nth 3 rfl
    have y2 := h5b.cell 2 (v := .map (some fb)) rfl
    have y3 := h5b.cell 3 (v := .map (some lb)) rfl
    have y4 := h5b.cell 4 (v := .slice A m c) rfl
    have f2 := h5b.free 2
    have f3 := h5b.free 3
    have f4 := h5b.free 4
    have H6 := Aside0.mk (((h5b.setBlk 2 (.map (some nb))).setBlk 3 (.map (some wc.heap.size))).setBlk 4 (.slice none 0 0))
    have ht : tot Fl ≤ 1099511627776 := by have := OK.out.tl; omega
    have HF1 := Aside0.mk hF1
    clear hb2 h5 h5b hF1 hF2 hF3 hFl H3 hpl hm hdf
    go_wp2_with (first | (go_at_call 40; go_loud ((with_reducible refine (Clone_calls _ nb es2 clock2 HB2.out).mono ?_); rintro e w3 ⟨rfl, rfl⟩)) | (go_at_call 42; go_loud (obtain ⟨F6, hm6⟩ := Store.mapAt (H6.out.nth 1 rfl) (m := (nb, Fl)) (by simp); (with_reducible refine (sum_calls _ F6 nb Fl HF1.out ht hm6).mono ?_); clear hm6; rintro e w4 ⟨rfl, hb4⟩; have h7 := H6.out.step hb4; have z1 := h7.cell 1 (v := .int .i64 (tot d.files : Nat)) rfl; have z6 := h7.cell 6 (v := .int .i64 d.left) rfl; have z9 := h7.cell 9 (v := .bool d.dead) rfl; have g1 := h7.free 1; have g6 := h7.free 6; have g9 := h7.free 9; have H8 := Aside0.mk (((h7.setBlk 1 (.int .i64 (tot Fl : Nat))).setBlk 6 (.int .i64 (-1))).setBlk 9 (.bool true)); clear h7 hb4)))
    try simp only [Exit.inBlock, Exit.then]
    refine bodyPost_end (results_none rfl _ _ _) rfl ?_
    refine ⟨rfl, ?_⟩
    rw [HFD.out]
    have a1 := H8.out.nth 1 rfl
    have hnd := Store.nodup a1
    have hne : wc.heap.size ≠ nb := by
      simp only [List.map_cons, List.nodup_cons, List.mem_cons, not_or] at hnd
      exact hnd.1.1
    have a2 := Store.sub (ms' := [(nb, Fl), (wc.heap.size, Fl)]) (hs' := []) a1 (by simp [Ne.symm hne]) (fun m hm => by
      simp only [List.mem_cons, List.not_mem_nil, or_false] at hm ⊢
      rcases hm with rfl | rfl <;> simp) (fun _ h => h)
    have a3 := ((a2.nth 2 rfl).tail.nth 2 rfl).tail
    have a4 := ((Sat.nilRow kFC 63 (Caps.start a3)).nth 2 rfl).nth 3 rfl
    exact Dk.mk (fb := nb) (lb := wc.heap.size) (pv := .slice none 0 0) (ps := []) a4
end Go.Proofs.Ytlngljhinboglaa.DkC
namespace Go.Proofs.Ytlngljhinboglaa.DkM
open Go.RowKit Go.WideMaps Go.ChangeMaps Go.MapKept Go.Maps Go.Lib Go.Proofs.YtlngljhinboglaaW.PrintWords Go.Proofs.YtlngljhinboglaaW.PrintLast Go.Proofs.YtlngljhinboglaaW.PrintMore Go.Proofs.Ytlngljhinboglaa.Sl Go.Proofs.Ytlngljhinboglaa.DkP Go.Proofs.Ytlngljhinboglaa.DkS Go.Proofs.Ytlngljhinboglaa.DkW Go.Proofs.Ytlngljhinboglaa.DkT Go.Proofs.Ytlngljhinboglaa.DkV Go.Proofs.Ytlngljhinboglaa.DkC
set_option linter.unusedVariables false
set_option linter.unusedSimpArgs false
theorem fits_calls (w : World) (a : ByteArray) (ha : a.size ≤ maxLen) :
    Calls Try.prog 28 #[.string a] w fun e w' => e = .returned (.bool (fits a)) ∧ w' = w := by
  by_cases h0 : a.size = 0
  · have e : a = ByteArray.empty := by
      apply ByteArray.ext
      apply Array.eq_empty_of_size_eq_zero
      exact h0
    subst e
    go_enter Try.func28, Try.ntmps28
    go_wp2
    go_ret
    exact ⟨rfl, rfl⟩
  · have hne : ¬ a.toList = [] := by
      rw [ByteArray.toList_eq]
      intro e
      have e2 := congrArg List.length e
      rw [Array.length_toList] at e2
      exact h0 e2
    have he : a.toList.isEmpty = false := by simpa using hne
    have HF := Aside0.mk (show fits a = decide ((a.size : Int) ≤ 40) by unfold fits; rw [Bool.eq_iff_iff, decide_eq_true_iff, decide_eq_true_iff]; omega)
    clear h0
    go_enter Try.func28, Try.ntmps28
    go_wp2
    go_ret
    rw [HF.out]
    exact ⟨by simp [he], rfl⟩
/-- The disk's cells, for a walk. -/
theorem Dk.cell {w0 w : World} {L : List Asn} {g : Nat} {d : DS} (h : Sat w0 w (Dk g d :: L)) : w.cell? ⟨g, 0, none⟩ = some (.int .i64 d.room) ∧ w.cell? ⟨g, 1, none⟩ = some (.int .i64 (tot d.files : Nat)) ∧ w.cell? ⟨g, 5, none⟩ = some (.int .i64 d.ops) ∧ w.cell? ⟨g, 6, none⟩ = some (.int .i64 d.left) ∧ w.cell? ⟨g, 7, none⟩ = some (.int .i64 d.keep) ∧ w.cell? ⟨g, 8, none⟩ = some (.int .i64 d.part) ∧ w.cell? ⟨g, 9, none⟩ = some (.bool d.dead) := by
  obtain ⟨fb, lb, A, c, ps, _, _, h1⟩ := Dk.open h
  exact ⟨h1.cell 0 rfl, h1.cell 1 rfl, h1.cell 5 rfl, h1.cell 6 rfl, h1.cell 7 rfl, h1.cell 8 rfl, h1.cell 9 rfl⟩
theorem Dk.free {w0 w : World} {L : List Asn} {g : Nat} {d : DS} (h : Sat w0 w (Dk g d :: L)) (j : Nat) : w.frozen? ⟨g, j, none⟩ = false := by
  obtain ⟨fb, lb, A, c, ps, _, _, h1⟩ := Dk.open h
  exact h1.free j
/-- A field that is no slice and no map is stored. -/
theorem Dk.set {w0 w : World} {L : List Asn} {g : Nat} {d : DS} (h : Sat w0 w (Dk g d :: L)) (j : Nat) (u : Value) {d' : DS} (hf : d'.files = d.files) (hl : d'.lasting = d.lasting) (hp : d'.pend = d.pend) (hc : ∀ fb lb pv, (cellsOf d fb lb pv).setIfInBounds j u = cellsOf d' fb lb pv) : Sat w0 (w.setCell ⟨g, j, none⟩ u) (Dk g d' :: L) := by
  obtain ⟨fb, lb, A, c, ps, _, _, h1⟩ := Dk.open h
  have h2 := h1.setBlk j u
  rw [hc] at h2
  refine Dk.mk (fb := fb) (lb := lb) (pv := .slice A d.pend.length c) (ps := ps) ?_
  rw [hf, hl, hp]
  exact h2
theorem Used_calls (w0 w : World) (L : List Asn) (g : Nat) (d : DS) (h : Sat w0 w (Dk g d :: L)) : Calls Try.prog 16 #[.pointer (some ⟨g, 0, none⟩)] w fun e w' => e = .returned (.int .i64 (tot d.files : Nat)) ∧ w' = w := by
  obtain ⟨x0, x1, x5, x6, x7, x8, x9⟩ := Dk.cell h
  go_enter Try.func16, Try.ntmps16
  go_wp2
  go_ret
  exact ⟨rfl, rfl⟩
theorem Ops_calls (w0 w : World) (L : List Asn) (g : Nat) (d : DS) (h : Sat w0 w (Dk g d :: L)) : Calls Try.prog 13 #[.pointer (some ⟨g, 0, none⟩)] w fun e w' => e = .returned (.int .i64 d.ops) ∧ w' = w := by
  obtain ⟨x0, x1, x5, x6, x7, x8, x9⟩ := Dk.cell h
  go_enter Try.func13, Try.ntmps13
  go_wp2
  go_ret
  exact ⟨rfl, rfl⟩
theorem Dead_calls (w0 w : World) (L : List Asn) (g : Nat) (d : DS) (h : Sat w0 w (Dk g d :: L)) : Calls Try.prog 12 #[.pointer (some ⟨g, 0, none⟩)] w fun e w' => e = .returned (.bool d.dead) ∧ w' = w := by
  obtain ⟨x0, x1, x5, x6, x7, x8, x9⟩ := Dk.cell h
  go_enter Try.func12, Try.ntmps12
  go_wp2
  go_ret
  exact ⟨rfl, rfl⟩
theorem Pending_calls (w0 w : World) (L : List Asn) (g : Nat) (d : DS) (h : Sat w0 w (Dk g d :: L)) : Calls Try.prog 11 #[.pointer (some ⟨g, 0, none⟩)] w fun e w' => e = .returned (.int .i64 d.pend.length) ∧ w' = w := by
  obtain ⟨fb, lb, A, c, ps, _, _, h1⟩ := Dk.open h
  have x4 := h1.cell 4 (v := .slice A d.pend.length c) rfl
  clear h h1
  go_enter Try.func11, Try.ntmps11
  go_wp2
  go_ret
  exact ⟨rfl, rfl⟩
theorem Power_calls (w0 w : World) (L : List Asn) (g : Nat) (d : DS) (h : Sat w0 w (Dk g d :: L)) : Calls Try.prog 14 #[.pointer (some ⟨g, 0, none⟩)] w fun e w' => e = .returned (.tuple #[]) ∧ Sat w0 w' (Dk g d.power :: L) := by
  obtain ⟨x0, x1, x5, x6, x7, x8, x9⟩ := Dk.cell h
  have f6 := Dk.free h 6
  have f9 := Dk.free h 9
  have HS := Aside0.mk h
  clear h
  go_enter Try.func14, Try.ntmps14
  go_wp2
  go_end0
  refine ⟨rfl, ?_⟩
  have h1 := Dk.set HS.out 9 (.bool false) (d' := { d with dead := false }) rfl rfl rfl (fun _ _ _ => rfl)
  exact Dk.set h1 6 (.int .i64 (-1)) (d' := d.power) rfl rfl rfl (fun _ _ _ => rfl)
attribute [local go_sem] max2_int max_two in
theorem Cut_calls (w0 w : World) (L : List Asn) (g : Nat) (d : DS) (n keep part : Int) (h : Sat w0 w (Dk g d :: L)) : Calls Try.prog 9 #[.pointer (some ⟨g, 0, none⟩), .int .i64 n, .int .i64 keep, .int .i64 part] w fun e w' => e = .returned (.tuple #[]) ∧ Sat w0 w' (Dk g (d.cut n keep part) :: L) := by
  obtain ⟨x0, x1, x5, x6, x7, x8, x9⟩ := Dk.cell h
  have f6 := Dk.free h 6
  have f7 := Dk.free h 7
  have f8 := Dk.free h 8
  have key : ∀ z, z = max n 0 → Sat w0 (((w.setCell ⟨g, 6, none⟩ (.int .i64 z)).setCell ⟨g, 7, none⟩ (.int .i64 keep)).setCell ⟨g, 8, none⟩ (.int .i64 part)) (Dk g (d.cut n keep part) :: L) := by
    rintro z rfl
    have h1 := Dk.set h 6 (.int .i64 (max n 0)) (d' := { d with left := max n 0 }) rfl rfl rfl (fun _ _ _ => rfl)
    have h2 := Dk.set h1 7 (.int .i64 keep) (d' := { d with left := max n 0, keep := keep }) rfl rfl rfl (fun _ _ _ => rfl)
    exact Dk.set h2 8 (.int .i64 part) (d' := d.cut n keep part) rfl rfl rfl (fun _ _ _ => rfl)
  have HK := Aside0.mk key
  clear h key
  go_enter Try.func9, Try.ntmps9
  go_wp2
  all_goals go_end0
  all_goals exact ⟨rfl, HK.out _ (by omega)⟩
def Dr.T2 : Bool × List (List Nat × List Nat) := (true, [([], []), ([], []), ([1], [1]), ([2], [2]), ([3], [3]), ([], []), ([5], [5]), ([6], [6]), ([7], [7]), ([0, 4, 8], [0, 4, 8])])
def Dr.B2 : List Nat := [0, 0, 2, 6, 14, 0, 32, 96, 224, 511]
theorem Dr.tab2 : rtab .any (opsOf Try.f39 2) = Dr.T2 := by kernel_rfl
theorem Dr.bits2 : waitsOk Dr.T2.2 Dr.B2 = true := by kernel_rfl
set_option maxHeartbeats 4000000 in
set_option maxRecDepth 100000 in
theorem raw_calls (w0 w : World) (L : List Asn) (g : Nat) (d : DS) (N S : Nat) (hN : N ≤ 100000) (hS : S ≤ 68719476736) (ok : Ok d N S) (h : Sat w0 w (Dk g d :: L)) :
    Calls Try.prog 39 #[.pointer (some ⟨g, 0, none⟩)] w fun e w' => e = .returned (.int .i64 d.raw.2) ∧ Sat w0 w' (Dk g d.raw.1 :: L) := by
  obtain ⟨x0, x1, x5, x6, x7, x8, x9⟩ := Dk.cell h
  have OK := Aside0.mk ok
  have HS := Aside0.mk h
  by_cases hl : d.left = 0
  · have hc0 : (d.left == 0) = true := beq_iff_eq.2 hl
    have hdc : (d.crash d.keep d.part).dead = true := by unfold DS.crash; split <;> simp_all
    have HR := Aside0.mk (show d.raw = (d.crash d.keep d.part, 13) from by unfold DS.raw DS.rawD; rw [if_pos hl]; simp only; rw [if_pos hdc])
    clear ok h x9 hl
    go_enter Try.func39, Try.ntmps39
    go_upto_region 2 with (fail)
    clear x0 x1 x5 x6
    refine start_ (n := 10) (S := fun w' => w'.cell? ⟨g, 7, none⟩ = some (.int .i64 d.keep) ∧ w'.cell? ⟨g, 8, none⟩ = some (.int .i64 d.part)) (ds := [9]) #[false, false, false, false, false, false, false, false, false, false] (by kernel_rfl) rfl rfl ⟨x7, x8⟩ (fun hHeld => ?_)
    refine with_tabW Dr.tab2 Dr.bits2 (fun HT_ HW_ => ?_)
    refine pure_ (i := 0) (N := some 8) (v := ?_) (a' := ?_) #[true, false, false, false, false, false, false, false, false, false] rfl rfl (any_of HT_.out (by kernel_rfl)) (fun _ _ _ h => h) (Or.inl ⟨by rfl, ?_⟩) ?_ ?_
    rotate_left
    · intro w'
      go_simp
      with_reducible rfl
    rotate_left
    · simp only [Act.put, List.setIfInBounds_toArray, List.set_cons_zero, List.set_cons_succ, i64_w, i32_w]
      rfl
    refine pure_ (i := 1) (N := some 9) (v := ?_) (a' := ?_) #[true, true, false, false, false, false, false, false, false, false] rfl rfl (any_of HT_.out (by kernel_rfl)) (fun _ _ _ h => h) (Or.inl ⟨by rfl, ?_⟩) ?_ ?_
    rotate_left
    · intro w'
      go_simp
      with_reducible rfl
    rotate_left
    · simp only [Act.put, List.setIfInBounds_toArray, List.set_cons_zero, List.set_cons_succ, i64_w, i32_w]
      rfl
    refine pure_ (i := 2) (N := some 10) (v := ?_) (a' := ?_) #[true, true, true, false, false, false, false, false, false, false] rfl rfl (any_of HT_.out (by kernel_rfl)) (fun _ _ _ h => h) (Or.inl ⟨by rfl, ?_⟩) ?_ ?_
    rotate_left
    · intro w'
      go_simp
      with_reducible rfl
    rotate_left
    · simp only [Act.put, List.setIfInBounds_toArray, List.set_cons_zero, List.set_cons_succ, i64_w, i32_w]
      rfl
    refine pure_ (i := 3) (N := some 11) (v := ?_) (a' := ?_) #[true, true, true, true, false, false, false, false, false, false] rfl rfl (any_of HT_.out (by kernel_rfl)) (fun _ _ _ h => h) (Or.inl ⟨by rfl, ?_⟩) ?_ ?_
    rotate_left
    · intro w'
      go_simp
      with_reducible rfl
    rotate_left
    · simp only [Act.put, List.setIfInBounds_toArray, List.set_cons_zero, List.set_cons_succ, i64_w, i32_w]
      rfl
    refine pure_ (i := 5) (N := some 13) (v := ?_) (a' := ?_) #[true, true, true, true, false, true, false, false, false, false] rfl rfl (any_of HT_.out (by kernel_rfl)) (fun _ _ _ h => h) (Or.inl ⟨by rfl, ?_⟩) ?_ ?_
    rotate_left
    · intro w'
      go_simp
      with_reducible rfl
    rotate_left
    · simp only [Act.put, List.setIfInBounds_toArray, List.set_cons_zero, List.set_cons_succ, i64_w, i32_w]
      rfl
    refine pure_ (i := 6) (N := some 14) (v := ?_) (a' := ?_) #[true, true, true, true, false, true, true, false, false, false] rfl rfl (any_of HT_.out (by kernel_rfl)) (fun _ _ _ h => h) (Or.inl ⟨by rfl, ?_⟩) ?_ ?_
    rotate_left
    · intro w'
      go_simp
      with_reducible rfl
    rotate_left
    · simp only [Act.put, List.setIfInBounds_toArray, List.set_cons_zero, List.set_cons_succ, i64_w, i32_w]
      rfl
    refine pure_ (i := 7) (N := some 15) (v := ?_) (a' := ?_) #[true, true, true, true, false, true, true, true, false, false] rfl rfl (any_of HT_.out (by kernel_rfl)) (fun _ _ _ h => h) (Or.inl ⟨by rfl, ?_⟩) ?_ ?_
    rotate_left
    · intro w'
      go_simp
      with_reducible rfl
    rotate_left
    · simp only [Act.put, List.setIfInBounds_toArray, List.set_cons_zero, List.set_cons_succ, i64_w, i32_w]
      rfl
    refine take_ (i := 4) (N := some 12) (v := ?_) (a' := ?_) #[true, true, true, true, true, true, true, true, false, false] rfl rfl (take_ofW HT_.out HW_.out (by kernel_rfl)) (fun _ _ _ h => h) (Or.inl ⟨by rfl, ?_⟩) hHeld ?_ ?_
    rotate_left
    · rintro w' ⟨s0, s1⟩
      go_simp
      with_reducible rfl
    rotate_left
    · simp only [Act.put, List.setIfInBounds_toArray, List.set_cons_zero, List.set_cons_succ, i64_w, i32_w]
      rfl
    refine take_ (i := 8) (N := some 16) (v := ?_) (a' := ?_) #[true, true, true, true, true, true, true, true, true, false] rfl rfl (take_ofW HT_.out HW_.out (by kernel_rfl)) (fun _ _ _ h => h) (Or.inl ⟨by rfl, ?_⟩) hHeld ?_ ?_
    rotate_left
    · rintro w' ⟨s0, s1⟩
      go_simp
      with_reducible rfl
    rotate_left
    · simp only [Act.put, List.setIfInBounds_toArray, List.set_cons_zero, List.set_cons_succ, i64_w, i32_w]
      rfl
    refine last_ (i := 9) (N := some 17) #[true, true, true, true, true, true, true, true, true, true] rfl rfl (one_of HT_.out (by kernel_rfl)) (by decide) (fun K hK => ?_)
    refine goes_ Try.func23 (by kernel_rfl) rfl #[.pointer (some ⟨g, 0, none⟩), .int .i64 d.keep, .int .i64 d.part] (by rfl) rfl rfl (by simp only [List.map_toArray, List.map_cons, List.map_nil]; rfl) ?_
    with_reducible refine (crash_calls w0 _ _ g d N S d.keep d.part hN hS OK.out HS.out.drew).mono ?_
    rintro e w3 ⟨rfl, hs3⟩
    refine ⟨_, rfl, ?_⟩
    have HS3 := Aside0.mk hs3
    clear hs3
    refine hK.out _ _ ?_
    clear hK K
    refine norm_ (a' := ?_) ?_ ?_
    rotate_left
    · show Act.put _ (some 17) _ = _
      simp only [Act.put, List.setIfInBounds_toArray, List.set_cons_zero, List.set_cons_succ, i64_w, i32_w]
      rfl
    refine done_ (done_of HT_.out (by kernel_rfl)) ?_
    obtain ⟨_, _, _, _, _, _, z9⟩ := Dk.cell HS3.out
    rw [hdc] at z9
    go_wp2
    go_ret
    rw [HR.out]
    exact ⟨rfl, HS3.out⟩
  · have hc0 : (d.left == 0) = false := beq_eq_false_iff_ne.2 hl
    have hrd : d.rawD = d := by unfold DS.rawD; rw [if_neg hl]
    by_cases hd : d.dead = true
    · have HR := Aside0.mk (show d.raw = (d, 13) from by unfold DS.raw; rw [hrd]; simp only; rw [if_pos hd])
      rw [hd] at x9
      clear ok h hl hrd hd
      go_enter Try.func39, Try.ntmps39
      go_wp2
      go_ret
      rw [HR.out]
      exact ⟨rfl, HS.out⟩
    · have hdf : d.dead = false := by simpa using hd
      rw [hdf] at x9
      have f5 := Dk.free h 5
      have f6 := Dk.free h 6
      have ho : wrap64 (d.ops + 1) = d.ops + 1 := by have := ok.op0; have := ok.op1; unfold wrap64; omega
      by_cases hp : 0 < d.left
      · have hpd : decide (0 < d.left) = true := decide_eq_true hp
        have hw : wrap64 (d.left - 1) = d.left - 1 := by have := ok.l1; unfold wrap64; omega
        have HR := Aside0.mk (show d.raw = ({ d with left := d.left - 1, ops := d.ops + 1 }, 0) from by unfold DS.raw; rw [hrd]; simp only; rw [if_neg hd, if_pos hp])
        clear ok h hl hrd hd hdf hp
        go_enter Try.func39, Try.ntmps39
        go_wp2
        go_ret
        rw [HR.out]
        refine ⟨rfl, ?_⟩
        have h1 := Dk.set HS.out 6 (.int .i64 (d.left - 1)) (d' := { d with left := d.left - 1 }) rfl rfl rfl (fun _ _ _ => rfl)
        exact Dk.set h1 5 (.int .i64 (d.ops + 1)) (d' := { d with left := d.left - 1, ops := d.ops + 1 }) rfl rfl rfl (fun _ _ _ => rfl)
      · have hpd : decide (0 < d.left) = false := decide_eq_false hp
        have HR := Aside0.mk (show d.raw = ({ d with ops := d.ops + 1 }, 0) from by unfold DS.raw; rw [hrd]; simp only; rw [if_neg hd, if_neg hp])
        clear ok h hl hrd hd hdf hp
        go_enter Try.func39, Try.ntmps39
        go_wp2
        go_ret
        rw [HR.out]
        refine ⟨rfl, ?_⟩
        exact Dk.set HS.out 5 (.int .i64 (d.ops + 1)) (d' := { d with ops := d.ops + 1 }) rfl rfl rfl (fun _ _ _ => rfl)
end Go.Proofs.Ytlngljhinboglaa.DkM
